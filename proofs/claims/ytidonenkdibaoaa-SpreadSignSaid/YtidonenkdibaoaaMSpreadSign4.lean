/- Texts of this session joined by a small program: plain Lean functions with the answers of Go functions of this seat, proofs that the machine's calls come to them, and plain laws over them that the claim SpreadSign uses. -/
import Derived.Test.YtidonenkdibaoaaProg
import Derived.RegionTactic
import Derived.Maps.Own
import Derived.Maps.OwnOps
import Derived.Maps.OwnSet
import Derived.Laws.Externs
import Derived.WalkLawsBesides
import Derived.Deep.RegionLaw
import Derived.IntWalk
import Derived.Below
import Derived.Deep.Draws
import Derived.Deep.AppendLies
import Derived.Maps.AppendAt
import Derived.OwnWalk
import Derived.Laws.BytesArg
import Derived.Laws.MakeOwn
import Derived.Laws.OwnMore
import Derived.Deep.OwnRows
import Derived.Tactics
import Derived.Lib.ConvBytes
import Derived.Laws.Slices
import Derived.WalkKit
import Derived.KernelRfl
import Derived.RowKit3
import Derived.Deep.LoopGhost
import Derived.Deep.QuietTactic
import Derived.BigQuiet
import Derived.WideLaws
import Derived.Deep.DeepCutAuto
import Derived.Deep.CutBlock
import Derived.Deep.RegionHeld3
import Derived.Laws.Rows
import Derived.Lib.AppendStr
import Derived.ArgAppend
import Derived.Laws.IdiomCopy
import Derived.OrdersHeld
import Derived.Laws.BitsLemmas
import Derived.RowKit
import Derived.Test.YtidonenkdibaoaaWWords
import Derived.Test.YtidonenkdibaoaaWLast
import Derived.Test.YtidonenkdibaoaaWTab
import Derived.Test.YtidonenkdibaoaaWFour
import Derived.Test.YtidonenkdibaoaaWQPut
import Derived.Test.YtidonenkdibaoaaWApart
import Derived.Test.YtidonenkdibaoaaWArr
import Derived.Test.YtidonenkdibaoaaWZeros
import Derived.Test.YtidonenkdibaoaaWFoot
import Derived.Test.YtidonenkdibaoaaWKept
import Derived.Test.YtidonenkdibaoaaWShare
import Derived.Test.YtidonenkdibaoaaWN
import Derived.Test.YtidonenkdibaoaaWFootNe
import Derived.Test.YtidonenkdibaoaaWAt
import Derived.Test.YtidonenkdibaoaaWEqStruct
import Derived.Test.YtidonenkdibaoaaWRepsOne
import Derived.Test.YtidonenkdibaoaaWInv
import Derived.Test.YtidonenkdibaoaaWInvWords
import Derived.Test.YtidonenkdibaoaaWGuard
import Derived.Test.YtidonenkdibaoaaWNEv
import Derived.Test.YtidonenkdibaoaaWMore
import Derived.Laws.Bits64
import Derived.Test.YtidonenkdibaoaaMSpreadSign3
section
namespace Go.Proofs.Ytidonenkdibaoaa.PX
open Go.RowKit Go.Proofs.YtidonenkdibaoaaW.PrintWords Go.Proofs.YtidonenkdibaoaaW.PrintLast Go.Proofs.YtidonenkdibaoaaW.PrintMore
attribute [local go_sem] max2_int min2_int max_two min_two max_three min_three max_four min_four   -- for this text's walks alone
set_option linter.unusedVariables false
set_option linter.unusedSimpArgs false

/-! ### customsref02_Share: function 13 -/
mutual
def customsref02_Share.j0 : Nat → Int → List Int → Bool → Int → Option (List Int × Int)
  | 0, _, _, _, _ => none
  | k + 1, x0, x1, x6, x7 => customsref02_Share.l0 k x0 x1 x6 x7 0
def customsref02_Share.l0 : Nat → Int → List Int → Bool → Int → Int → Option (List Int × Int)
  | 0, _, _, _, _, _ => none
  | k + 1, x0, x1, x6, x7, x8 => if x8 < (x1.length : Int) then (if x6 = true then (customsref02_Share.l0 k x0 x1 true x7 (wrap64 (x8 + 1))) else (if 0 ≤ x8 then (if (rd x1 x8) < 0 then (customsref02_Share.l0 k x0 x1 true x7 (wrap64 (x8 + 1))) else (customsref02_Share.l0 k x0 x1 (decide ((rd x1 x8) > 1000000000000)) x7 (wrap64 (x8 + 1)))) else (none))) else (if x6 = true then (some (([] : List Int), 2)) else (if (x1.length : Int) = 0 then (customsref02_Share.j2 k x0 x1 x7 (decide (x0 > 0))) else (customsref02_Share.j2 k x0 x1 x7 false)))
def customsref02_Share.j2 : Nat → Int → List Int → Int → Bool → Option (List Int × Int)
  | 0, _, _, _, _ => none
  | k + 1, x0, x1, x7, x57 => if x57 = true then (some (([] : List Int), 7)) else (customsref02_Share.l1 k x0 x1 x7 0)
def customsref02_Share.l1 : Nat → Int → List Int → Int → Int → Option (List Int × Int)
  | 0, _, _, _, _ => none
  | k + 1, x0, x1, x7, x9 => if x9 < (x1.length : Int) then (if 0 ≤ x9 then (customsref02_Share.l1 k x0 x1 (wrap64 (x7 + (rd x1 x9))) (wrap64 (x9 + 1))) else (none)) else (if 0 ≤ (x1.length : Int) then (if ((x1.length : Int) : Int).toNat ≤ 35184372088832 then (customsref02_Share.l2 k x0 x1 x7 (List.replicate ((x1.length : Int) : Int).toNat 0) (List.replicate ((x1.length : Int) : Int).toNat 0) x0 0) else (none)) else (none))
def customsref02_Share.l2 : Nat → Int → List Int → Int → List Int → List Int → Int → Int → Option (List Int × Int)
  | 0, _, _, _, _, _, _, _ => none
  | k + 1, x0, x1, x7, x10, x11, x12, x13 => if x13 < (x1.length : Int) then (if 0 ≤ x13 then (if x7 = 0 then ((customsref01_Mul.f k (IntKind.u64.wrap (x0)) 1).bind fun bt165 => ((customsref01_DivMod.f k bt165.1 bt165.2 (IntKind.u64.wrap ((x1.length : Int)))).bind fun bt167 => (if x13 < (x10.length : Int) then ((some (x10.set (x13 : Int).toNat (wrap64 (bt167.2.1)) : List Int)).bind fun y171 => (if x13 < (x11.length : Int) then (customsref02_Share.l2 k x0 x1 x7 y171 (x11.set (x13 : Int).toNat (wrap64 (bt167.2.2))) (wrap64 (x12 - (rd y171 x13))) (wrap64 (x13 + 1))) else (none))) else (none)))) else ((customsref01_Mul.f k (IntKind.u64.wrap (x0)) (IntKind.u64.wrap (rd x1 x13))).bind fun bt174 => ((customsref01_DivMod.f k bt174.1 bt174.2 (IntKind.u64.wrap (x7))).bind fun bt176 => (if x13 < (x10.length : Int) then ((some (x10.set (x13 : Int).toNat (wrap64 (bt176.2.1)) : List Int)).bind fun y180 => (if x13 < (x11.length : Int) then (customsref02_Share.l2 k x0 x1 x7 y180 (x11.set (x13 : Int).toNat (wrap64 (bt176.2.2))) (wrap64 (x12 - (rd y180 x13))) (wrap64 (x13 + 1))) else (none))) else (none))))) else (none)) else (customsref02_Share.l3 k x10 x11 x12)
def customsref02_Share.l3 : Nat → List Int → List Int → Int → Option (List Int × Int)
  | 0, _, _, _ => none
  | k + 1, x10, x11, x12 => if x12 > 0 then (customsref02_Share.l4 k x10 x11 x12 0 1) else (some (x10, 0))
def customsref02_Share.l4 : Nat → List Int → List Int → Int → Int → Int → Option (List Int × Int)
  | 0, _, _, _, _, _ => none
  | k + 1, x10, x11, x12, x18, x19 => if x19 < (x11.length : Int) then (if 0 ≤ x19 then (if 0 ≤ x18 then (if x18 < (x11.length : Int) then (if (rd x11 x19) > (rd x11 x18) then (customsref02_Share.l4 k x10 x11 x12 x19 (wrap64 (x19 + 1))) else (customsref02_Share.l4 k x10 x11 x12 x18 (wrap64 (x19 + 1)))) else (none)) else (none)) else (none)) else (if 0 ≤ x18 then (if x18 < (x10.length : Int) then (if x18 < (x11.length : Int) then (customsref02_Share.l3 k (x10.set (x18 : Int).toNat (wrap64 ((rd x10 x18) + 1))) (x11.set (x18 : Int).toNat (-1)) (wrap64 (x12 - 1))) else (none)) else (none)) else (none))
end
def customsref02_Share.f (k : Nat) (a0 : Int) (l1 : List Int) : Option (List Int × Int) := if (l1.length : Int) > 1000 then (some (([] : List Int), 8)) else (if a0 < 0 then (customsref02_Share.j0 k a0 l1 true 0) else (customsref02_Share.j0 k a0 l1 (decide (a0 > 1000000000000)) 0))
def customsref02_Share.T16 : Bool × List (List Nat × List Nat) := (true, [([], []), ([0], [0]), ([1, 1], [1]), ([], []), ([3], [3]), ([4, 4], [4]), ([], []), ([2, 0, 1, 2], [2]), ([5, 7, 0, 1, 2, 3, 4, 5, 7], [5]), ([6, 8, 0, 1, 2, 3, 4, 5, 6, 7, 8], [6])])
def customsref02_Share.B16 : List Nat := [0, 1, 3, 0, 8, 24, 0, 7, 191, 511]
theorem customsref02_Share.tab16 : rtab .any (opsOf Try.f13 16) = customsref02_Share.T16 := by kernel_rfl
theorem customsref02_Share.bits16 : waitsOk customsref02_Share.T16.2 customsref02_Share.B16 = true := by kernel_rfl
def customsref02_Share.T32 : Bool × List (List Nat × List Nat) := (true, [([], []), ([], []), ([0, 1], [0, 1]), ([2], [2]), ([], []), ([], []), ([4, 5], [4, 5]), ([6], [6]), ([3, 7], [3, 7])])
def customsref02_Share.B32 : List Nat := [0, 0, 3, 7, 0, 0, 48, 112, 255]
theorem customsref02_Share.tab32 : rtab .any (opsOf Try.f13 32) = customsref02_Share.T32 := by kernel_rfl
theorem customsref02_Share.bits32 : waitsOk customsref02_Share.T32.2 customsref02_Share.B32 = true := by kernel_rfl
set_option maxHeartbeats 8000000 in
set_option maxRecDepth 100000 in
theorem customsref02_Share.calls (k : Nat) (a0 : Int) (A1 : Option Addr) (c1 : Nat) (l1 : List Int) (r1 : List Int) (r2 : Int) (w : World) (hr1 : Kd.C (Kd.int .i64) w A1 l1.length l1) (hc1 : l1.length ≤ c1) (h : customsref02_Share.f k a0 l1 = some (r1, r2)) :
    Calls Try.prog 13 #[.int .i64 a0, .slice A1 l1.length c1] w fun e w' => ∃ v0_ : Value, e = .returned (.tuple #[v0_, .int .i64 r2]) ∧ Kd.R (Kd.int .i64) 3 w' w.heap.size (fun _ => True) v0_ r1 ∧ Below w.heap.size w w' := by
  have hu47 := Try.underlying47
  have HR1 := Aside0.mk hr1
  have HC1 := Aside0.mk hc1
  clear hr1 hc1
  have HB := Aside0.mk (Below.refl w.heap.size w)
  have H : (if (l1.length : Int) > 1000 then (some (([] : List Int), 8)) else (if a0 < 0 then (customsref02_Share.j0 k a0 l1 true 0) else (customsref02_Share.j0 k a0 l1 (decide (a0 > 1000000000000)) 0))) = some (r1, r2) := h
  clear h
  by_cases c3 : (l1.length : Int) > 1000
  · rw [if_pos c3] at H
    have c3b0 : decide (1000 < (l1.length : Int)) = true := decide_eq_true c3
    have c3b1 : decide (1000 < l1.length) = true := decide_eq_true (by omega)
    clear c3
    simp only [Option.some.injEq, Prod.mk.injEq] at H
    obtain ⟨rfl, rfl⟩ := H
    go_enter Try.func13, Try.ntmps13
    go_wp2
    go_ret2
    exact ⟨_, by first | rfl | (simp [errW_none, errW_some] <;> rfl) | (simp [*, errW_none, errW_some] <;> rfl) | (simp (disch := first | assumption | omega) only [Int.tdiv_eq_ediv_of_nonneg, Int.tmod_eq_emod_of_nonneg]; rfl), by first | exact Kd.R_nil _ _ _ _ _ | exact Kd.N_nil _ _ _ _ _ | exact Kd.V_nil _ _ _ _ _ | exact Kd.Q_nil _ _ _ _ _ | exact Kd.S_nil _ _ _ _ _, by repeat (first | (with_reducible first | exact HB.out | apply below_alloc | apply pw_below_drewN | apply below_drew1) | exact HB.out)⟩
  · rw [if_neg c3] at H
    have c3b0 : decide (1000 < (l1.length : Int)) = false := decide_eq_false c3
    have c3b1 : decide (1000 < l1.length) = false := decide_eq_false (by omega)
    clear c3
    have HC4 := Aside0.mk H
    clear H
    go_enter Try.func13, Try.ntmps13
    go_upto_region 3 with (fail)
    go_cut [6, 7] (fun v6 v7 wc => ∃ (kq : Nat) (x6_3 : Bool) (x7_3 : Int), v6 = .bool x6_3 ∧ v7 = .int .i64 x7_3 ∧ Aside0 (customsref02_Share.j0 kq a0 l1 x6_3 x7_3 = some (r1, r2)) ∧ Aside0 (kq ≤ k) ∧ Aside0 (Below w.heap.size w wc))
    case first =>
      have H := HC4.out
      clear HC4
      by_cases c5 : a0 < 0
      · rw [if_pos c5] at H
        have c5b0 : decide (a0 < 0) = true := decide_eq_true c5
        clear c5
        (first | rw [c5b0] | (simp only [i64_w, i32_w]; rw [c5b0]) | skip)
        have H' := Aside0.mk H
        clear H
        go_wp2
        go_meet
        case rel => exact ⟨_, (true), (0), (by first | rfl | (simp; done) | (simp [*]; done)), (by first | rfl | (simp; done) | (simp [*]; done)), H', ⟨by first | omega | exact Nat.le_refl _⟩, ⟨by repeat (first | (with_reducible first | exact HB.out | apply below_alloc | apply pw_below_drewN | apply below_drew1) | exact HB.out)⟩⟩
      · rw [if_neg c5] at H
        have c5b0 : decide (a0 < 0) = false := decide_eq_false c5
        clear c5
        (first | rw [c5b0] | (simp only [i64_w, i32_w]; rw [c5b0]) | skip)
        have H' := Aside0.mk H
        clear H
        go_wp2
        go_meet
        case rel => exact ⟨_, (decide (a0 > 1000000000000)), (0), (by first | rfl | (simp; done) | (simp [*]; done)), (by first | rfl | (simp; done) | (simp [*]; done)), H', ⟨by first | omega | exact Nat.le_refl _⟩, ⟨by repeat (first | (with_reducible first | exact HB.out | apply below_alloc | apply pw_below_drewN | apply below_drew1) | exact HB.out)⟩⟩
    case rest =>
      clear HC4
      try clear c1
      try clear p2
      try clear c3
      try clear c3b0
      try clear c3b1
      try clear c5
      try clear c5b0
      obtain ⟨kq, x6_3, x7_3, rfl, rfl, HA, HJ3, HB⟩ := hcut
      cases kq with
      | zero => exact absurd HA.out (by simp [customsref02_Share.j0])
      | succ kj3 =>
        have H := HA.out
        clear HA
        simp only [customsref02_Share.j0] at H
        have H' := Aside0.mk H
        clear H
        go_wp2
        go_loopg [6, 8] kj3 (fun kq v6 v8 w' => ∃ (x6_2 : Bool) (x8_2 : Int), v6 = .bool x6_2 ∧ v8 = .int .i64 x8_2 ∧ Aside0 (customsref02_Share.l0 kq a0 l1 x6_2 x7_3 x8_2 = some (r1, r2)) ∧ Aside0 (kq ≤ kj3) ∧ Aside0 (Below w.heap.size w w'))
        case atStart => exact ⟨(x6_3), (0), (by first | rfl | (simp; done) | (simp [*]; done)), (by first | rfl | (simp; done) | (simp [*]; done)), H', ⟨Nat.le_refl _⟩, ⟨by repeat (first | (with_reducible first | exact HB.out | apply below_alloc | apply pw_below_drewN | apply below_drew1) | exact HB.out)⟩⟩
        case round =>
          clear H'
          try clear c1
          try clear p2
          try clear c3
          try clear c3b0
          try clear c3b1
          try clear c5
          try clear c5b0
          try clear p2
          obtain ⟨x6_2, x8_2, rfl, rfl, HA, HK2, HB⟩ := hrel
          cases gk with
          | zero => exact absurd HA.out (by simp [customsref02_Share.l0])
          | succ k2 =>
            have H := HA.out
            clear HA
            simp only [customsref02_Share.l0] at H
            by_cases c6 : x8_2 < (l1.length : Int)
            · rw [if_pos c6] at H
              have c6b0 : decide (x8_2 < (l1.length : Int)) = true := decide_eq_true c6
              clear c6
              by_cases c7 : x6_2 = true
              · subst c7
                have H1 : (customsref02_Share.l0 k2 a0 l1 true x7_3 (wrap64 (x8_2 + 1))) = some (r1, r2) := by rw [if_pos rfl] at H; exact H
                clear H
                have H := H1
                clear H1
                have H' := Aside0.mk H
                clear H
                go_wp2
                go_roundg k2
                case measure => have := HJ3.out; have := HK2.out; omega
                case rel => exact ⟨(true), (wrap64 (x8_2 + 1)), (by first | rfl | (simp; done) | (simp [*]; done)), (by first | rfl | (simp; done) | (simp [*]; done)), H', ⟨by have := HJ3.out; have := HK2.out; omega⟩, ⟨by repeat (first | (with_reducible first | exact HB.out | apply below_alloc | apply pw_below_drewN | apply below_drew1) | exact HB.out)⟩⟩
              · replace c7 := Bool.eq_false_iff.mpr c7
                subst c7
                have H1 : (if 0 ≤ x8_2 then (if (rd l1 x8_2) < 0 then (customsref02_Share.l0 k2 a0 l1 true x7_3 (wrap64 (x8_2 + 1))) else (customsref02_Share.l0 k2 a0 l1 (decide ((rd l1 x8_2) > 1000000000000)) x7_3 (wrap64 (x8_2 + 1)))) else (none)) = some (r1, r2) := by rw [if_neg (show ¬ (false = true) by decide)] at H; exact H
                clear H
                have H := H1
                clear H1
                by_cases c8 : 0 ≤ x8_2
                · rw [if_pos c8] at H
                  have c8b0 : decide (0 ≤ x8_2) = true := decide_eq_true c8
                  clear c8
                  by_cases c9 : (rd l1 x8_2) < 0
                  · rw [if_pos c9] at H
                    have c9b0 : decide ((rd l1 x8_2) < 0) = true := decide_eq_true c9
                    clear c9
                    have H' := Aside0.mk H
                    clear H
                    have p155 : 0 ≤ (x8_2 : Int) := of_decide_eq_true (by first | (with_reducible assumption) | assumption)
                    have q155 : x8_2 < (l1.length : Int) := of_decide_eq_true (by first | (with_reducible assumption) | assumption)
                    obtain ⟨ad155, e155, hx155_0⟩ := Kd.at_int HR1.out x8_2 p155 q155
                    cases e155
                    replace hx155_0 := (HB.out.cell (World.block_lt_of_cell? w _ hx155_0)).trans hx155_0
                    replace p155 := eq_true p155
                    replace q155 := eq_true q155
                    go_wp2
                    go_roundg k2
                    case measure => have := HJ3.out; have := HK2.out; omega
                    case rel => exact ⟨(true), (wrap64 (x8_2 + 1)), (by first | rfl | (simp; done) | (simp [*]; done)), (by first | rfl | (simp; done) | (simp [*]; done)), H', ⟨by have := HJ3.out; have := HK2.out; omega⟩, ⟨by repeat (first | (with_reducible first | exact HB.out | apply below_alloc | apply pw_below_drewN | apply below_drew1) | exact HB.out)⟩⟩
                  · rw [if_neg c9] at H
                    have c9b0 : decide ((rd l1 x8_2) < 0) = false := decide_eq_false c9
                    clear c9
                    have H' := Aside0.mk H
                    clear H
                    have p155 : 0 ≤ (x8_2 : Int) := of_decide_eq_true (by first | (with_reducible assumption) | assumption)
                    have q155 : x8_2 < (l1.length : Int) := of_decide_eq_true (by first | (with_reducible assumption) | assumption)
                    obtain ⟨ad155, e155, hx155_0⟩ := Kd.at_int HR1.out x8_2 p155 q155
                    cases e155
                    replace hx155_0 := (HB.out.cell (World.block_lt_of_cell? w _ hx155_0)).trans hx155_0
                    replace p155 := eq_true p155
                    replace q155 := eq_true q155
                    have p156 : 0 ≤ (x8_2 : Int) := of_decide_eq_true (by first | (with_reducible assumption) | assumption)
                    have q156 : x8_2 < (l1.length : Int) := of_decide_eq_true (by first | (with_reducible assumption) | assumption)
                    obtain ⟨ad156, e156, hx156_0⟩ := Kd.at_int HR1.out x8_2 p156 q156
                    obtain rfl : ad155 = ad156 := (by injection e156)
                    replace hx156_0 := (HB.out.cell (World.block_lt_of_cell? w _ hx156_0)).trans hx156_0
                    replace p156 := eq_true p156
                    replace q156 := eq_true q156
                    go_wp2
                    go_roundg k2
                    case measure => have := HJ3.out; have := HK2.out; omega
                    case rel => exact ⟨(decide ((rd l1 x8_2) > 1000000000000)), (wrap64 (x8_2 + 1)), (by first | rfl | (simp; done) | (simp [*]; done)), (by first | rfl | (simp; done) | (simp [*]; done)), H', ⟨by have := HJ3.out; have := HK2.out; omega⟩, ⟨by repeat (first | (with_reducible first | exact HB.out | apply below_alloc | apply pw_below_drewN | apply below_drew1) | exact HB.out)⟩⟩
                · rw [if_neg c8] at H
                  exact absurd H (by simp)
            · rw [if_neg c6] at H
              have c6b0 : decide (x8_2 < (l1.length : Int)) = false := decide_eq_false c6
              clear c6
              by_cases c10 : x6_2 = true
              · subst c10
                have H1 : (some (([] : List Int), 2)) = some (r1, r2) := by rw [if_pos rfl] at H; exact H
                clear H
                have H := H1
                clear H1
                simp only [Option.some.injEq, Prod.mk.injEq] at H
                obtain ⟨rfl, rfl⟩ := H
                go_wp2
                go_ret2
                exact ⟨_, by first | rfl | (simp [errW_none, errW_some] <;> rfl) | (simp [*, errW_none, errW_some] <;> rfl) | (simp (disch := first | assumption | omega) only [Int.tdiv_eq_ediv_of_nonneg, Int.tmod_eq_emod_of_nonneg]; rfl), by first | exact Kd.R_nil _ _ _ _ _ | exact Kd.N_nil _ _ _ _ _ | exact Kd.V_nil _ _ _ _ _ | exact Kd.Q_nil _ _ _ _ _ | exact Kd.S_nil _ _ _ _ _, by repeat (first | (with_reducible first | exact HB.out | apply below_alloc | apply pw_below_drewN | apply below_drew1) | exact HB.out)⟩
              · replace c10 := Bool.eq_false_iff.mpr c10
                subst c10
                have H1 : (if (l1.length : Int) = 0 then (customsref02_Share.j2 k2 a0 l1 x7_3 (decide (a0 > 0))) else (customsref02_Share.j2 k2 a0 l1 x7_3 false)) = some (r1, r2) := by rw [if_neg (show ¬ (false = true) by decide)] at H; exact H
                clear H
                have H := H1
                clear H1
                have HC11 := Aside0.mk H
                clear H
                go_upto_region 10 with (fail)
                go_cut [57] (fun v57 wc => ∃ (kq : Nat) (x57_10 : Bool), v57 = .bool x57_10 ∧ Aside0 (customsref02_Share.j2 kq a0 l1 x7_3 x57_10 = some (r1, r2)) ∧ Aside0 (kq ≤ k2) ∧ Aside0 (Below w.heap.size w wc))
                case first =>
                  have H := HC11.out
                  clear HC11
                  by_cases c12 : (l1.length : Int) = 0
                  · rw [if_pos c12] at H
                    have c12b0 : ((l1.length : Int) == 0) = true := beq_iff_eq.mpr c12
                    have c12b1 : ((l1.length : Int) != 0) = false := bne_eq_false_iff_eq.mpr c12
                    clear c12
                    (first | rw [c12b0] | (simp only [i64_w, i32_w]; rw [c12b0]) | skip)
                    have H' := Aside0.mk H
                    clear H
                    go_wp2
                    go_meet
                    case rel => exact ⟨_, (decide (a0 > 0)), (by first | rfl | (simp; done) | (simp [*]; done)), H', ⟨by have := HJ3.out; have := HK2.out; first | omega | exact Nat.le_refl _⟩, ⟨by repeat (first | (with_reducible first | exact HB.out | apply below_alloc | apply pw_below_drewN | apply below_drew1) | exact HB.out)⟩⟩
                  · rw [if_neg c12] at H
                    have c12b0 : ((l1.length : Int) == 0) = false := beq_eq_false_iff_ne.mpr c12
                    have c12b1 : ((l1.length : Int) != 0) = true := bne_iff_ne.mpr c12
                    have c12b2 : ¬ (l1 = []) := fun h_ => c12 (by rw [h_]; rfl)
                    (first | rw [c12b0] | (simp only [i64_w, i32_w]; rw [c12b0]) | skip)
                    have H' := Aside0.mk H
                    clear H
                    go_wp2
                    go_meet
                    case rel => exact ⟨_, (false), (by first | rfl | (simp; done) | (simp [*]; done)), H', ⟨by have := HJ3.out; have := HK2.out; first | omega | exact Nat.le_refl _⟩, ⟨by repeat (first | (with_reducible first | exact HB.out | apply below_alloc | apply pw_below_drewN | apply below_drew1) | exact HB.out)⟩⟩
                case rest =>
                  clear HC11
                  try clear c1
                  try clear p1
                  try clear q1
                  try clear hx1
                  try clear p2
                  try clear c3
                  try clear c3b0
                  try clear c3b1
                  try clear c5
                  try clear c5b0
                  try clear c6
                  try clear c6b0
                  try clear p6
                  try clear c7
                  try clear c8
                  try clear c8b0
                  try clear c9
                  try clear c9b0
                  try clear c10
                  try clear c12
                  try clear c12b0
                  try clear c12b1
                  try clear c12b2
                  try clear hx155_0
                  try clear hx156_0
                  try clear p155
                  try clear p156
                  try clear p2
                  try clear q155
                  try clear q156
                  obtain ⟨kq, x57_10, rfl, HA, HJ10, HB⟩ := hcut
                  cases kq with
                  | zero => exact absurd HA.out (by simp [customsref02_Share.j2])
                  | succ kj10 =>
                    have H := HA.out
                    clear HA
                    simp only [customsref02_Share.j2] at H
                    by_cases c13 : x57_10 = true
                    · subst c13
                      have H1 : (some (([] : List Int), 7)) = some (r1, r2) := by rw [if_pos rfl] at H; exact H
                      clear H
                      have H := H1
                      clear H1
                      simp only [Option.some.injEq, Prod.mk.injEq] at H
                      obtain ⟨rfl, rfl⟩ := H
                      go_wp2
                      go_ret2
                      exact ⟨_, by first | rfl | (simp [errW_none, errW_some] <;> rfl) | (simp [*, errW_none, errW_some] <;> rfl) | (simp (disch := first | assumption | omega) only [Int.tdiv_eq_ediv_of_nonneg, Int.tmod_eq_emod_of_nonneg]; rfl), by first | exact Kd.R_nil _ _ _ _ _ | exact Kd.N_nil _ _ _ _ _ | exact Kd.V_nil _ _ _ _ _ | exact Kd.Q_nil _ _ _ _ _ | exact Kd.S_nil _ _ _ _ _, by repeat (first | (with_reducible first | exact HB.out | apply below_alloc | apply pw_below_drewN | apply below_drew1) | exact HB.out)⟩
                    · replace c13 := Bool.eq_false_iff.mpr c13
                      subst c13
                      have H1 : (customsref02_Share.l1 kj10 a0 l1 x7_3 0) = some (r1, r2) := by rw [if_neg (show ¬ (false = true) by decide)] at H; exact H
                      clear H
                      have H := H1
                      clear H1
                      have H' := Aside0.mk H
                      clear H
                      go_wp2
                      go_loopg [7, 9] kj10 (fun kq v7 v9 w' => ∃ (x7_4 : Int) (x9_4 : Int), v7 = .int .i64 x7_4 ∧ v9 = .int .i64 x9_4 ∧ Aside0 (customsref02_Share.l1 kq a0 l1 x7_4 x9_4 = some (r1, r2)) ∧ Aside0 (kq ≤ kj10) ∧ Aside0 (Below w.heap.size w w'))
                      case atStart => exact ⟨(x7_3), (0), (by first | rfl | (simp; done) | (simp [*]; done)), (by first | rfl | (simp; done) | (simp [*]; done)), H', ⟨Nat.le_refl _⟩, ⟨by repeat (first | (with_reducible first | exact HB.out | apply below_alloc | apply pw_below_drewN | apply below_drew1) | exact HB.out)⟩⟩
                      case round =>
                        clear H'
                        try clear c1
                        try clear p1
                        try clear q1
                        try clear hx1
                        try clear p2
                        try clear c3
                        try clear c3b0
                        try clear c3b1
                        try clear c5
                        try clear c5b0
                        try clear c6
                        try clear c6b0
                        try clear p6
                        try clear c7
                        try clear c8
                        try clear c8b0
                        try clear c9
                        try clear c9b0
                        try clear c10
                        try clear c12
                        try clear c12b0
                        try clear c12b1
                        try clear c12b2
                        try clear c13
                        try clear hx155_0
                        try clear hx156_0
                        try clear p1
                        try clear p155
                        try clear p156
                        try clear p2
                        try clear p6
                        try clear q1
                        try clear q155
                        try clear q156
                        obtain ⟨x7_4, x9_4, rfl, rfl, HA, HK4, HB⟩ := hrel
                        cases gk with
                        | zero => exact absurd HA.out (by simp [customsref02_Share.l1])
                        | succ k4 =>
                          have H := HA.out
                          clear HA
                          simp only [customsref02_Share.l1] at H
                          by_cases c14 : x9_4 < (l1.length : Int)
                          · rw [if_pos c14] at H
                            have c14b0 : decide (x9_4 < (l1.length : Int)) = true := decide_eq_true c14
                            clear c14
                            by_cases c15 : 0 ≤ x9_4
                            · rw [if_pos c15] at H
                              have c15b0 : decide (0 ≤ x9_4) = true := decide_eq_true c15
                              clear c15
                              have H' := Aside0.mk H
                              clear H
                              have p157 : 0 ≤ (x9_4 : Int) := of_decide_eq_true (by first | (with_reducible assumption) | assumption)
                              have q157 : x9_4 < (l1.length : Int) := of_decide_eq_true (by first | (with_reducible assumption) | assumption)
                              obtain ⟨ad157, e157, hx157_0⟩ := Kd.at_int HR1.out x9_4 p157 q157
                              cases e157
                              replace hx157_0 := (HB.out.cell (World.block_lt_of_cell? w _ hx157_0)).trans hx157_0
                              replace p157 := eq_true p157
                              replace q157 := eq_true q157
                              go_wp2
                              go_roundg k4
                              case measure => have := HJ3.out; have := HK2.out; have := HJ10.out; have := HK4.out; omega
                              case rel => exact ⟨(wrap64 (x7_4 + (rd l1 x9_4))), (wrap64 (x9_4 + 1)), (by first | rfl | (simp; done) | (simp [*]; done)), (by first | rfl | (simp; done) | (simp [*]; done)), H', ⟨by have := HJ3.out; have := HK2.out; have := HJ10.out; have := HK4.out; omega⟩, ⟨by repeat (first | (with_reducible first | exact HB.out | apply below_alloc | apply pw_below_drewN | apply below_drew1) | exact HB.out)⟩⟩
                            · rw [if_neg c15] at H
                              exact absurd H (by simp)
                          · rw [if_neg c14] at H
                            have c14b0 : decide (x9_4 < (l1.length : Int)) = false := decide_eq_false c14
                            clear c14
                            by_cases c16 : 0 ≤ (l1.length : Int)
                            · rw [if_pos c16] at H
                              have c16b0 := eq_true c16
                              have c16b1 : decide (0 ≤ (l1.length : Int)) = true := decide_eq_true c16
                              clear c16
                              by_cases c17 : ((l1.length : Int) : Int).toNat ≤ 35184372088832
                              · rw [if_pos c17] at H
                                have c17b0 := eq_true c17
                                have c17b1 : decide (((l1.length : Int) : Int).toNat ≤ 35184372088832) = true := decide_eq_true c17
                                clear c17
                                obtain ⟨y158, hy158⟩ : ∃ y_ : List Int, y_ = (List.replicate ((l1.length : Int) : Int).toNat 0) := ⟨_, rfl⟩
                                replace H : (customsref02_Share.l2 k4 a0 l1 x7_4 y158 (List.replicate ((l1.length : Int) : Int).toNat 0) a0 0) = some (r1, r2) := by first | (rw [hy158]; with_reducible exact H) | (have H2_ := (Option.bind_some _ _).symm.trans H; rw [hy158]; with_reducible exact H2_) | (have H2_ := (Option.bind_some _ _).symm.trans H; with_reducible exact H2_) | with_reducible exact H | (rw [hy158]; exact H) | exact H
                                have Ny158 := Aside0.mk hy158
                                clear hy158
                                obtain ⟨y161, hy161⟩ : ∃ y_ : List Int, y_ = (List.replicate ((l1.length : Int) : Int).toNat 0) := ⟨_, rfl⟩
                                replace H : (customsref02_Share.l2 k4 a0 l1 x7_4 y158 y161 a0 0) = some (r1, r2) := by first | (rw [hy161]; with_reducible exact H) | (have H2_ := (Option.bind_some _ _).symm.trans H; rw [hy161]; with_reducible exact H2_) | (have H2_ := (Option.bind_some _ _).symm.trans H; with_reducible exact H2_) | with_reducible exact H | (rw [hy161]; exact H) | exact H
                                have Ny161 := Aside0.mk hy161
                                clear hy161
                                have H' := Aside0.mk H
                                clear H
                                try go_wp2
                                have n0_ := Aside0.mk (below_drew1 HB.out)
                                clear HB
                                have HB := n0_
                                clear n0_
                                refine start_ (n := 10) (S := fun w' => True) (ds := []) #[false, false, false, false, false, false, false, false, false, false] (by kernel_rfl) rfl rfl trivial (fun hHeld => ?_); refine with_tabW customsref02_Share.tab16 customsref02_Share.bits16 (fun HT_ HW_ => ?_)
                                generalize wr.drew = w18 at HB hHeld ⊢
                                refine pure_ (i := 0) (N := some 70) (v := ?_) (a' := ?_) #[true, false, false, false, false, false, false, false, false, false] rfl rfl (any_of HT_.out (by kernel_rfl)) (fun _ _ _ h => h) (Or.inl ⟨by rfl, ?_⟩) ?_ ?_
                                rotate_left
                                · intro w'
                                  go_simp
                                  with_reducible rfl
                                rotate_left
                                · simp only [Act.put, List.setIfInBounds_toArray, List.set_cons_zero, List.set_cons_succ, i64_w, i32_w]
                                  rfl
                                refine pure_ (i := 1) (N := some 71) (v := ?_) (a' := ?_) #[true, true, false, false, false, false, false, false, false, false] rfl rfl (any_of HT_.out (by kernel_rfl)) (fun _ _ _ h => h) (Or.inl ⟨by rfl, ?_⟩) ?_ ?_
                                rotate_left
                                · intro w'
                                  go_simp
                                  with_reducible rfl
                                rotate_left
                                · simp only [Act.put, List.setIfInBounds_toArray, List.set_cons_zero, List.set_cons_succ, i64_w, i32_w]
                                  rfl
                                refine pure_ (i := 3) (N := some 73) (v := ?_) (a' := ?_) #[true, true, false, true, false, false, false, false, false, false] rfl rfl (any_of HT_.out (by kernel_rfl)) (fun _ _ _ h => h) (Or.inl ⟨by rfl, ?_⟩) ?_ ?_
                                rotate_left
                                · intro w'
                                  go_simp
                                  with_reducible rfl
                                rotate_left
                                · simp only [Act.put, List.setIfInBounds_toArray, List.set_cons_zero, List.set_cons_succ, i64_w, i32_w]
                                  rfl
                                refine pure_ (i := 4) (N := some 74) (v := ?_) (a' := ?_) #[true, true, false, true, true, false, false, false, false, false] rfl rfl (any_of HT_.out (by kernel_rfl)) (fun _ _ _ h => h) (Or.inl ⟨by rfl, ?_⟩) ?_ ?_
                                rotate_left
                                · intro w'
                                  go_simp
                                  with_reducible rfl
                                rotate_left
                                · simp only [Act.put, List.setIfInBounds_toArray, List.set_cons_zero, List.set_cons_succ, i64_w, i32_w]
                                  rfl
                                refine pure_ (i := 6) (N := some 76) (v := ?_) (a' := ?_) #[true, true, false, true, true, false, true, false, false, false] rfl rfl (any_of HT_.out (by kernel_rfl)) (fun _ _ _ h => h) (Or.inl ⟨by rfl, ?_⟩) ?_ ?_
                                rotate_left
                                · intro w'
                                  go_simp
                                  with_reducible rfl
                                rotate_left
                                · simp only [Act.put, List.setIfInBounds_toArray, List.set_cons_zero, List.set_cons_succ, i64_w, i32_w]
                                  rfl
                                refine join_ (σ := Value × Value) 2 #[true, true, true, true, true, true, true, true, false, false] (fun s_ => [(72, s_.1), (75, s_.2), (10, s_.1)]) (fun s_ w' => (Kd.R (Kd.int .i64) 3 w' w.heap.size (fun k_ => some k_ ≠ (s_.2 : Value).ownBlock) s_.1 y158) ∧ (Kd.R (Kd.int .i64) 3 w' w.heap.size (fun k_ => some k_ ≠ (s_.1 : Value).ownBlock) s_.2 y161) ∧ (Below w.heap.size w w')) ?_ ?_
                                rotate_left
                                · intro hCont
                                  refine two_ (i := 2) (j := 5) (Ni := some 72) (Nj := some 75) #[true, true, true, true, true, false, true, false, false, false] #[true, true, false, true, true, true, true, false, false, false] rfl rfl rfl rfl (two_of HT_.out (by kernel_rfl)) (by decide) (by decide) (fun K hK => ?_) (fun K hK => ?_)
                                  · skip
                                    refine Kd.R_make_step (Kd.int .i64) _ 3 (by rfl) (N := 72) rfl 22 _ _ rfl (l1.length : Int) rfl rfl Try.underlying22 (.int .i64 0) 8 info3 rfl (by decide) (by omega) 0 (ok := fun _ => True) (okp := fun _ => True) rfl (fun _ hk => hk) trivial (of_decide_eq_true (by first | (with_reducible assumption) | assumption)) (Nat.le_trans (Nat.mul_le_mul_right _ (of_decide_eq_true (by first | (with_reducible assumption) | assumption) : (l1.length : Int).toNat ≤ 35184372088832)) (by omega)) (Below.refl _ _) (Nat.le_refl _) ?_
                                    intro v159 w19 ho20 hb hg_ hnew_
                                    clear hg_ hnew_
                                    (first | rw [← Ny158.out] at ho20 | (simp only [Int.reduceToNat] at ho20; rw [← Ny158.out] at ho20))
                                    have n0_ := Aside0.mk (Kd.R_lower ho20 (below_size (by repeat (first | (with_reducible first | exact HB.out | apply below_alloc | apply pw_below_drewN | apply below_drew1) | exact HB.out))))
                                    have n1_ := Aside0.mk (below_step (by repeat (first | (with_reducible first | exact HB.out | apply below_alloc | apply pw_below_drewN | apply below_drew1) | exact HB.out)) hb)
                                    clear HB
                                    have HO160 := n0_
                                    have HB := n1_
                                    clear n0_ n1_
                                    clear hb ho20
                                    refine hK.out _ _ trivial (fun hHeld => ?_)
                                    clear hK K
                                    refine norm_ (a' := ?_) ?_ ?_
                                    rotate_left
                                    · show Act.put _ (some 72) _ = _
                                      simp only [Act.put, List.setIfInBounds_toArray, List.set_cons_zero, List.set_cons_succ, i64_w, i32_w]
                                      rfl
                                    refine pure_ (i := 7) (N := some 10) (v := ?_) (a' := ?_) #[true, true, true, true, true, false, true, true, false, false] rfl rfl (any_of HT_.out (by kernel_rfl)) (fun _ _ _ h => h) (Or.inl ⟨by rfl, ?_⟩) ?_ ?_
                                    rotate_left
                                    · intro w'
                                      go_simp
                                      with_reducible rfl
                                    rotate_left
                                    · simp only [Act.put, List.setIfInBounds_toArray, List.set_cons_zero, List.set_cons_succ, i64_w, i32_w]
                                      rfl
                                    refine one_ (i := 5) (N := some 75) #[true, true, true, true, true, true, true, true, false, false] rfl rfl (one_of HT_.out (by kernel_rfl)) (by decide) (fun K hK => ?_)
                                    refine Kd.R_make_step (Kd.int .i64) _ 3 (by rfl) (N := 75) rfl 22 _ _ rfl (l1.length : Int) rfl rfl Try.underlying22 (.int .i64 0) 8 info3 rfl (by decide) (by omega) 0 (ok := fun _ => True) (okp := fun _ => True) rfl (fun _ hk => hk) trivial (of_decide_eq_true (by first | (with_reducible assumption) | assumption)) (Nat.le_trans (Nat.mul_le_mul_right _ (of_decide_eq_true (by first | (with_reducible assumption) | assumption) : (l1.length : Int).toNat ≤ 35184372088832)) (by omega)) (Below.refl _ _) (Nat.le_refl _) ?_
                                    intro v162 w21 ho22 hb hg_ hnew_
                                    clear hg_ hnew_
                                    (first | rw [← Ny161.out] at ho22 | (simp only [Int.reduceToNat] at ho22; rw [← Ny161.out] at ho22))
                                    have n0_ := Aside0.mk (Kd.R_elder' (by (with_reducible repeat (first | apply Kd.R_alloc | apply Kd.R_drewN | apply Kd.R_drew)); exact HO160.out) (Kd.R_base ho22) hb)
                                    have n1_ := Aside0.mk (Kd.R_lower (Kd.R_new' ho22 (Kd.R_lt (by (with_reducible repeat (first | apply Kd.R_alloc | apply Kd.R_drewN | apply Kd.R_drew)); exact HO160.out))) (below_size (by repeat (first | (with_reducible first | exact HB.out | apply below_alloc | apply pw_below_drewN | apply below_drew1) | exact HB.out))))
                                    have n2_ := Aside0.mk (below_step (by repeat (first | (with_reducible first | exact HB.out | apply below_alloc | apply pw_below_drewN | apply below_drew1) | exact HB.out)) hb)
                                    clear HO160
                                    clear HB
                                    have HO160 := n0_
                                    have HO163 := n1_
                                    have HB := n2_
                                    clear n0_ n1_ n2_
                                    clear hb ho22
                                    refine hK.out _ _ trivial (fun hHeld => ?_)
                                    clear hK K
                                    refine norm_ (a' := ?_) ?_ ?_
                                    rotate_left
                                    · show Act.put _ (some 75) _ = _
                                      simp only [Act.put, List.setIfInBounds_toArray, List.set_cons_zero, List.set_cons_succ, i64_w, i32_w]
                                      rfl
                                    exact norm_ (by simp only [putAll, Act.put, List.setIfInBounds_toArray, List.set_cons_zero, List.set_cons_succ]) (hCont (v159, v162) _ ⟨(by (with_reducible repeat (first | apply Kd.R_alloc | apply Kd.R_drewN | apply Kd.R_drew)); exact Kd.R_mono HO160.out (fun _ hk => hk.2)), (by (with_reducible repeat (first | apply Kd.R_alloc | apply Kd.R_drewN | apply Kd.R_drew)); exact Kd.R_mono HO163.out (fun _ hk => hk.2)), (by repeat (first | (with_reducible first | exact HB.out | apply below_alloc | apply pw_below_drewN | apply below_drew1) | exact HB.out))⟩)
                                  · skip
                                    refine Kd.R_make_step (Kd.int .i64) _ 3 (by rfl) (N := 75) rfl 22 _ _ rfl (l1.length : Int) rfl rfl Try.underlying22 (.int .i64 0) 8 info3 rfl (by decide) (by omega) 0 (ok := fun _ => True) (okp := fun _ => True) rfl (fun _ hk => hk) trivial (of_decide_eq_true (by first | (with_reducible assumption) | assumption)) (Nat.le_trans (Nat.mul_le_mul_right _ (of_decide_eq_true (by first | (with_reducible assumption) | assumption) : (l1.length : Int).toNat ≤ 35184372088832)) (by omega)) (Below.refl _ _) (Nat.le_refl _) ?_
                                    intro v162 w19 ho20 hb hg_ hnew_
                                    clear hg_ hnew_
                                    (first | rw [← Ny161.out] at ho20 | (simp only [Int.reduceToNat] at ho20; rw [← Ny161.out] at ho20))
                                    have n0_ := Aside0.mk (Kd.R_lower ho20 (below_size (by repeat (first | (with_reducible first | exact HB.out | apply below_alloc | apply pw_below_drewN | apply below_drew1) | exact HB.out))))
                                    have n1_ := Aside0.mk (below_step (by repeat (first | (with_reducible first | exact HB.out | apply below_alloc | apply pw_below_drewN | apply below_drew1) | exact HB.out)) hb)
                                    clear HB
                                    have HO163 := n0_
                                    have HB := n1_
                                    clear n0_ n1_
                                    clear hb ho20
                                    refine hK.out _ _ trivial (fun hHeld => ?_)
                                    clear hK K
                                    refine norm_ (a' := ?_) ?_ ?_
                                    rotate_left
                                    · show Act.put _ (some 75) _ = _
                                      simp only [Act.put, List.setIfInBounds_toArray, List.set_cons_zero, List.set_cons_succ, i64_w, i32_w]
                                      rfl
                                    refine one_ (i := 2) (N := some 72) #[true, true, true, true, true, true, true, false, false, false] rfl rfl (one_of HT_.out (by kernel_rfl)) (by decide) (fun K hK => ?_)
                                    refine Kd.R_make_step (Kd.int .i64) _ 3 (by rfl) (N := 72) rfl 22 _ _ rfl (l1.length : Int) rfl rfl Try.underlying22 (.int .i64 0) 8 info3 rfl (by decide) (by omega) 0 (ok := fun _ => True) (okp := fun _ => True) rfl (fun _ hk => hk) trivial (of_decide_eq_true (by first | (with_reducible assumption) | assumption)) (Nat.le_trans (Nat.mul_le_mul_right _ (of_decide_eq_true (by first | (with_reducible assumption) | assumption) : (l1.length : Int).toNat ≤ 35184372088832)) (by omega)) (Below.refl _ _) (Nat.le_refl _) ?_
                                    intro v159 w21 ho22 hb hg_ hnew_
                                    clear hg_ hnew_
                                    (first | rw [← Ny158.out] at ho22 | (simp only [Int.reduceToNat] at ho22; rw [← Ny158.out] at ho22))
                                    have n0_ := Aside0.mk (Kd.R_elder' (by (with_reducible repeat (first | apply Kd.R_alloc | apply Kd.R_drewN | apply Kd.R_drew)); exact HO163.out) (Kd.R_base ho22) hb)
                                    have n1_ := Aside0.mk (Kd.R_lower (Kd.R_new' ho22 (Kd.R_lt (by (with_reducible repeat (first | apply Kd.R_alloc | apply Kd.R_drewN | apply Kd.R_drew)); exact HO163.out))) (below_size (by repeat (first | (with_reducible first | exact HB.out | apply below_alloc | apply pw_below_drewN | apply below_drew1) | exact HB.out))))
                                    have n2_ := Aside0.mk (below_step (by repeat (first | (with_reducible first | exact HB.out | apply below_alloc | apply pw_below_drewN | apply below_drew1) | exact HB.out)) hb)
                                    clear HO163
                                    clear HB
                                    have HO163 := n0_
                                    have HO160 := n1_
                                    have HB := n2_
                                    clear n0_ n1_ n2_
                                    clear hb ho22
                                    refine hK.out _ _ trivial (fun hHeld => ?_)
                                    clear hK K
                                    refine norm_ (a' := ?_) ?_ ?_
                                    rotate_left
                                    · show Act.put _ (some 72) _ = _
                                      simp only [Act.put, List.setIfInBounds_toArray, List.set_cons_zero, List.set_cons_succ, i64_w, i32_w]
                                      rfl
                                    refine pure_ (i := 7) (N := some 10) (v := ?_) (a' := ?_) #[true, true, true, true, true, true, true, true, false, false] rfl rfl (any_of HT_.out (by kernel_rfl)) (fun _ _ _ h => h) (Or.inl ⟨by rfl, ?_⟩) ?_ ?_
                                    rotate_left
                                    · intro w'
                                      go_simp
                                      with_reducible rfl
                                    rotate_left
                                    · simp only [Act.put, List.setIfInBounds_toArray, List.set_cons_zero, List.set_cons_succ, i64_w, i32_w]
                                      rfl
                                    exact norm_ (by simp only [putAll, Act.put, List.setIfInBounds_toArray, List.set_cons_zero, List.set_cons_succ]) (hCont (v159, v162) _ ⟨(by (with_reducible repeat (first | apply Kd.R_alloc | apply Kd.R_drewN | apply Kd.R_drew)); exact Kd.R_mono HO160.out (fun _ hk => hk.2)), (by (with_reducible repeat (first | apply Kd.R_alloc | apply Kd.R_drewN | apply Kd.R_drew)); exact Kd.R_mono HO163.out (fun _ hk => hk.2)), (by repeat (first | (with_reducible first | exact HB.out | apply below_alloc | apply pw_below_drewN | apply below_drew1) | exact HB.out))⟩)
                                rintro ⟨v159, v162⟩ w23 ⟨h0_, h1_, h2_⟩
                                have n0_ : Aside0 (Kd.R (Kd.int .i64) 3 w23 w.heap.size (fun k_ => some k_ ≠ (v162 : Value).ownBlock) v159 y158) := ⟨h0_⟩
                                have n1_ : Aside0 (Kd.R (Kd.int .i64) 3 w23 w.heap.size (fun k_ => some k_ ≠ (v159 : Value).ownBlock) v162 y161) := ⟨h1_⟩
                                have n2_ : Aside0 (Below w.heap.size w w23) := ⟨h2_⟩
                                clear HB
                                clear h0_ h1_ h2_
                                have HO160 := n0_
                                have HO163 := n1_
                                have HB := n2_
                                clear n0_ n1_ n2_
                                have hHeld := trivial
                                refine norm_ (a' := ?_) ?_ ?_
                                rotate_left
                                · simp only [putAll, Act.put, List.setIfInBounds_toArray, List.set_cons_zero, List.set_cons_succ]
                                  rfl
                                refine pure_ (i := 8) (N := some 11) (v := ?_) (a' := ?_) #[true, true, true, true, true, true, true, true, true, false] rfl rfl (any_of HT_.out (by kernel_rfl)) (fun _ _ _ h => h) (Or.inl ⟨by rfl, ?_⟩) ?_ ?_
                                rotate_left
                                · intro w'
                                  go_simp
                                  with_reducible rfl
                                rotate_left
                                · simp only [Act.put, List.setIfInBounds_toArray, List.set_cons_zero, List.set_cons_succ, i64_w, i32_w]
                                  rfl
                                refine pure_ (i := 9) (N := some 12) (v := ?_) (a' := ?_) #[true, true, true, true, true, true, true, true, true, true] rfl rfl (any_of HT_.out (by kernel_rfl)) (fun _ _ _ h => h) (Or.inl ⟨by rfl, ?_⟩) ?_ ?_
                                rotate_left
                                · intro w'
                                  go_simp
                                  with_reducible rfl
                                rotate_left
                                · simp only [Act.put, List.setIfInBounds_toArray, List.set_cons_zero, List.set_cons_succ, i64_w, i32_w]
                                  rfl
                                refine done_ (done_of HT_.out (by kernel_rfl)) ?_
                                try go_wp2
                                go_loopg [12, 13] k4 (fun kq v12 v13 w' => ∃ (x10_5 : List Int) (x11_5 : List Int) (x12_5 : Int) (x13_5 : Int), v12 = .int .i64 x12_5 ∧ v13 = .int .i64 x13_5 ∧ Aside0 (customsref02_Share.l2 kq a0 l1 x7_4 x10_5 x11_5 x12_5 x13_5 = some (r1, r2)) ∧ Aside0 (kq ≤ k4) ∧ Aside0 (Kd.R (Kd.int .i64) 3 w' w.heap.size (fun k_ => some k_ ≠ (v162 : Value).ownBlock) v159 x10_5) ∧ Aside0 (Kd.R (Kd.int .i64) 3 w' w.heap.size (fun k_ => some k_ ≠ (v159 : Value).ownBlock) v162 x11_5) ∧ Aside0 (Below w.heap.size w w'))
                                case atStart => exact ⟨(y158), (y161), (a0), (0), (by first | rfl | (simp; done) | (simp [*]; done)), (by first | rfl | (simp; done) | (simp [*]; done)), H', ⟨Nat.le_refl _⟩, ⟨by (with_reducible repeat (first | apply Kd.R_alloc | apply Kd.R_drewN | apply Kd.R_drew)); exact HO160.out⟩, ⟨by (with_reducible repeat (first | apply Kd.R_alloc | apply Kd.R_drewN | apply Kd.R_drew)); exact HO163.out⟩, ⟨by repeat (first | (with_reducible first | exact HB.out | apply below_alloc | apply pw_below_drewN | apply below_drew1) | exact HB.out)⟩⟩
                                case round =>
                                  clear H'
                                  try clear c1
                                  try clear p1
                                  try clear q1
                                  try clear hx1
                                  try clear p2
                                  try clear c3
                                  try clear c3b0
                                  try clear c3b1
                                  try clear c5
                                  try clear c5b0
                                  try clear c6
                                  try clear c6b0
                                  try clear p6
                                  try clear c7
                                  try clear c8
                                  try clear c8b0
                                  try clear c9
                                  try clear c9b0
                                  try clear c10
                                  try clear c12
                                  try clear c12b0
                                  try clear c12b1
                                  try clear c12b2
                                  try clear c13
                                  try clear c14
                                  try clear c14b0
                                  try clear c15
                                  try clear c15b0
                                  try clear p15
                                  try clear q15
                                  try clear hx15
                                  try clear c16
                                  try clear c16b0
                                  try clear c16b1
                                  try clear c17
                                  try clear c17b0
                                  try clear c17b1
                                  try clear hx155_0
                                  try clear hx156_0
                                  try clear hx157_0
                                  try clear p1
                                  try clear p155
                                  try clear p156
                                  try clear p157
                                  try clear p2
                                  try clear p6
                                  try clear q1
                                  try clear q155
                                  try clear q156
                                  try clear q157
                                  obtain ⟨x10_5, x11_5, x12_5, x13_5, rfl, rfl, HA, HK5, HO_10, HO_11, HB⟩ := hrel
                                  cases gk with
                                  | zero => exact absurd HA.out (by simp [customsref02_Share.l2])
                                  | succ k5 =>
                                    have H := HA.out
                                    clear HA
                                    simp only [customsref02_Share.l2] at H
                                    by_cases c24 : x13_5 < (l1.length : Int)
                                    · rw [if_pos c24] at H
                                      have c24b0 : decide (x13_5 < (l1.length : Int)) = true := decide_eq_true c24
                                      clear c24
                                      by_cases c25 : 0 ≤ x13_5
                                      · rw [if_pos c25] at H
                                        have c25b0 : decide (0 ≤ x13_5) = true := decide_eq_true c25
                                        clear c25
                                        by_cases c26 : x7_4 = 0
                                        · rw [if_pos c26] at H
                                          have c26b0 : (x7_4 == 0) = true := beq_iff_eq.mpr c26
                                          have c26b1 : (x7_4 != 0) = false := bne_eq_false_iff_eq.mpr c26
                                          clear c26
                                          replace H := Option.bind_eq_some_iff.mp H
                                          obtain ⟨⟨t165, t166⟩, A270, H⟩ := H
                                          replace H : ((customsref01_DivMod.f k5 t165 t166 (IntKind.u64.wrap ((l1.length : Int)))).bind fun bt167 => (if x13_5 < (x10_5.length : Int) then ((some (x10_5.set (x13_5 : Int).toNat (wrap64 (bt167.2.1)) : List Int)).bind fun y171 => (if x13_5 < (x11_5.length : Int) then (customsref02_Share.l2 k5 a0 l1 x7_4 y171 (x11_5.set (x13_5 : Int).toNat (wrap64 (bt167.2.2))) (wrap64 (x12_5 - (rd y171 x13_5))) (wrap64 (x13_5 + 1))) else (none))) else (none))) = some (r1, r2) := H
                                          have A27 := Aside0.mk A270
                                          clear A270
                                          replace H := Option.bind_eq_some_iff.mp H
                                          obtain ⟨⟨t167, t168, t169⟩, A280, H⟩ := H
                                          replace H : (if x13_5 < (x10_5.length : Int) then ((some (x10_5.set (x13_5 : Int).toNat (wrap64 (t168)) : List Int)).bind fun y171 => (if x13_5 < (x11_5.length : Int) then (customsref02_Share.l2 k5 a0 l1 x7_4 y171 (x11_5.set (x13_5 : Int).toNat (wrap64 (t169))) (wrap64 (x12_5 - (rd y171 x13_5))) (wrap64 (x13_5 + 1))) else (none))) else (none)) = some (r1, r2) := H
                                          have A28 := Aside0.mk A280
                                          clear A280
                                          by_cases c29 : x13_5 < (x10_5.length : Int)
                                          · rw [if_pos c29] at H
                                            have c29b0 : decide (x13_5 < (x10_5.length : Int)) = true := decide_eq_true c29
                                            clear c29
                                            obtain ⟨y171, hy171⟩ : ∃ y_ : List Int, y_ = (x10_5.set (x13_5 : Int).toNat (wrap64 (t168))) := ⟨_, rfl⟩
                                            replace H : (if x13_5 < (x11_5.length : Int) then (customsref02_Share.l2 k5 a0 l1 x7_4 y171 (x11_5.set (x13_5 : Int).toNat (wrap64 (t169))) (wrap64 (x12_5 - (rd y171 x13_5))) (wrap64 (x13_5 + 1))) else (none)) = some (r1, r2) := by first | (rw [hy171]; with_reducible exact H) | (have H2_ := (Option.bind_some _ _).symm.trans H; rw [hy171]; with_reducible exact H2_) | (have H2_ := (Option.bind_some _ _).symm.trans H; with_reducible exact H2_) | with_reducible exact H | (rw [hy171]; exact H) | exact H
                                            have Ny171 := Aside0.mk hy171
                                            clear hy171
                                            by_cases c31 : x13_5 < (x11_5.length : Int)
                                            · rw [if_pos c31] at H
                                              have c31b0 : decide (x13_5 < (x11_5.length : Int)) = true := decide_eq_true c31
                                              clear c31
                                              obtain ⟨y172, hy172⟩ : ∃ y_ : List Int, y_ = (x11_5.set (x13_5 : Int).toNat (wrap64 (t169))) := ⟨_, rfl⟩
                                              replace H : (customsref02_Share.l2 k5 a0 l1 x7_4 y171 y172 (wrap64 (x12_5 - (rd y171 x13_5))) (wrap64 (x13_5 + 1))) = some (r1, r2) := by first | (rw [hy172]; with_reducible exact H) | (have H2_ := (Option.bind_some _ _).symm.trans H; rw [hy172]; with_reducible exact H2_) | (have H2_ := (Option.bind_some _ _).symm.trans H; with_reducible exact H2_) | with_reducible exact H | (rw [hy172]; exact H) | exact H
                                              have Ny172 := Aside0.mk hy172
                                              clear hy172
                                              have H' := Aside0.mk H
                                              clear H
                                              have p164 : 0 ≤ (x13_5 : Int) := of_decide_eq_true (by first | (with_reducible assumption) | assumption)
                                              have q164 : x13_5 < (l1.length : Int) := of_decide_eq_true (by first | (with_reducible assumption) | assumption)
                                              obtain ⟨ad164, e164, hx164_0⟩ := Kd.at_int HR1.out x13_5 p164 q164
                                              cases e164
                                              replace hx164_0 := (HB.out.cell (World.block_lt_of_cell? w _ hx164_0)).trans hx164_0
                                              replace p164 := eq_true p164
                                              replace q164 := eq_true q164
                                              go_wp2_with (first | ((with_reducible refine gate_callee (f := 26) rfl ?_); refine goesL_ (some 97) rfl rfl Try.func26 (by kernel_rfl) rfl #[.int .u64 (IntKind.u64.wrap (a0)), .int .u64 1] rfl (by (try simp only [List.map_toArray, List.map_cons, List.map_nil]); first | done | rfl | (simp only [List.length_drop, List.length_take]; rfl)) ?_; (with_reducible refine (customsref01_Mul.calls k5 (IntKind.u64.wrap (a0)) 1 t165 t166 _ A27.out).mono ?_); rintro e w33 ⟨rfl, hb⟩; refine ⟨_, rfl, ?_⟩; have n0_ := Aside0.mk (Kd.R_below (by (with_reducible repeat (first | apply Kd.R_alloc | apply Kd.R_drewN | apply Kd.R_drew)); exact HO_10.out) hb); have n1_ := Aside0.mk (Kd.R_below (by (with_reducible repeat (first | apply Kd.R_alloc | apply Kd.R_drewN | apply Kd.R_drew)); exact HO_11.out) hb); have n2_ := Aside0.mk (below_step (by repeat (first | (with_reducible first | exact HB.out | apply below_alloc | apply pw_below_drewN | apply below_drew1) | exact HB.out)) hb); clear HO_10; clear HO_11; clear HB; have HO_10 := n0_; have HO_11 := n1_; have HB := n2_; clear n0_ n1_ n2_; (try clear hb); (try clear hb2); (try clear hk); (try clear hi)) | ((with_reducible refine gate_callee (f := 25) rfl ?_); refine goesL_ (some 100) rfl rfl Try.func25 (by kernel_rfl) rfl #[.agg #[.int .u64 t165, .int .u64 t166], .int .u64 (IntKind.u64.wrap ((l1.length : Int)))] rfl (by (try simp only [List.map_toArray, List.map_cons, List.map_nil]); first | done | rfl | (simp only [List.length_drop, List.length_take]; rfl)) ?_; (with_reducible refine (customsref01_DivMod.calls k5 t165 t166 (IntKind.u64.wrap ((l1.length : Int))) t167 t168 t169 _ A28.out).mono ?_); rintro e w34 ⟨rfl, hb⟩; refine ⟨_, rfl, ?_⟩; have n0_ := Aside0.mk (Kd.R_below (by (with_reducible repeat (first | apply Kd.R_alloc | apply Kd.R_drewN | apply Kd.R_drew)); exact HO_10.out) hb); have n1_ := Aside0.mk (Kd.R_below (by (with_reducible repeat (first | apply Kd.R_alloc | apply Kd.R_drewN | apply Kd.R_drew)); exact HO_11.out) hb); have n2_ := Aside0.mk (below_step (by repeat (first | (with_reducible first | exact HB.out | apply below_alloc | apply pw_below_drewN | apply below_drew1) | exact HB.out)) hb); clear HO_10; clear HO_11; clear HB; have HO_10 := n0_; have HO_11 := n1_; have HB := n2_; clear n0_ n1_ n2_; (try clear hb); (try clear hb2); (try clear hk); (try clear hi)) | ((with_reducible refine gate_dst (N := 16) rfl ?_); refine box_event ?hg (N := 16) ?hd (cs := #[.int .u64 0, .int .u64 0]) (t := 47) ?hr ?_; (case hd => rfl); (case hg => rfl); (case hr => first | (go_simp; done) | (go_simp; rfl)); intro gb170 hg w35 hbox hb; have n0_ := Aside0.mk (Kd.R_below (by (with_reducible repeat (first | apply Kd.R_alloc | apply Kd.R_drewN | apply Kd.R_drew)); exact HO_10.out) hb); have n1_ := Aside0.mk (Kd.R_below (by (with_reducible repeat (first | apply Kd.R_alloc | apply Kd.R_drewN | apply Kd.R_drew)); exact HO_11.out) hb); have n2_ := Aside0.mk (below_step (by repeat (first | (with_reducible first | exact HB.out | apply below_alloc | apply pw_below_drewN | apply below_drew1) | exact HB.out)) hb); have n3_ := Aside0.mk (hbox); have n4_ := Aside0.mk ((by rw [hg]; exact (below_size (by repeat (first | (with_reducible first | exact HB.out | apply below_alloc | apply pw_below_drewN | apply below_drew1) | exact HB.out))) : w.heap.size ≤ gb170)); have n5_ := Aside0.mk ((by rw [hg]; exact (below_size (by repeat (first | (with_reducible first | exact HB.out | apply below_alloc | apply pw_below_drewN | apply below_drew1) | exact HB.out))) : w.heap.size ≤ gb170)); clear HO_10; clear HO_11; clear HB; have HO_10 := n0_; have HO_11 := n1_; have HB := n2_; have BK170 := n3_; have GW170 := n4_; have GE170 := n5_; clear n0_ n1_ n2_ n3_ n4_ n5_; clear hb hbox hg; have hcz36_0 : w35.cell? ⟨gb170, 0, none⟩ = some (.int .u64 0) := (blk_cell BK170.out 0).trans rfl; have hcz36_1 : w35.cell? ⟨gb170, 1, none⟩ = some (.int .u64 0) := (blk_cell BK170.out 1).trans rfl; have hfz36_0 := blk_frozen BK170.out 0; have hfz36_1 := blk_frozen BK170.out 1) | ((with_reducible refine gate_store (t := 47) (p := 16) rfl ?_); refine store_event (t := 47) (p := 16) (v := ?vo_w37) (w1 := ((w35.setCell ⟨gb170, 0, none⟩ (.int .u64 t167)).setCell ⟨gb170, 1, none⟩ (.int .u64 t168))) ?hg ?ho ?hn ?hr ?_; (case ho => rfl); (case hg => rfl); (case hn => rfl); (case hr => first | (go_simp; done) | (go_simp; rfl)); intro w37 hw; have n0_ : Aside0 (Kd.R (Kd.int .i64) 3 w37 w.heap.size (fun k_ => some k_ ≠ (v162 : Value).ownBlock) v159 x10_5) := ⟨(by rw [hw]; exact (by (with_reducible repeat (first | apply Kd.R_alloc | apply Kd.R_drewN | apply Kd.R_drew)); exact Kd.R_mono (Kd.R_far (p := ⟨gb170, 1, none⟩) (Kd.R_far (p := ⟨gb170, 0, none⟩) (Kd.R_types HO_10.out BK170.out (by decide)) (fun _ hk => hk.2) (.int .u64 t167)) (fun _ hk => hk.2) (.int .u64 t168)) (fun _ hk => hk.1)))⟩; have n1_ : Aside0 (Kd.R (Kd.int .i64) 3 w37 w.heap.size (fun k_ => some k_ ≠ (v159 : Value).ownBlock) v162 x11_5) := ⟨(by rw [hw]; exact (by (with_reducible repeat (first | apply Kd.R_alloc | apply Kd.R_drewN | apply Kd.R_drew)); exact Kd.R_mono (Kd.R_far (p := ⟨gb170, 1, none⟩) (Kd.R_far (p := ⟨gb170, 0, none⟩) (Kd.R_types HO_11.out BK170.out (by decide)) (fun _ hk => hk.2) (.int .u64 t167)) (fun _ hk => hk.2) (.int .u64 t168)) (fun _ hk => hk.1)))⟩; have n2_ : Aside0 (w37.heap[gb170]? = some (.cells #[.int .u64 t167, .int .u64 t168] 47 (0, 0))) := ⟨(by rw [hw]; exact (by (with_reducible repeat (first | refine blk_drewN ?_ _ | refine blk_drew ?_ | refine blk_alloc ?_ _)); refine blk_put (cs := #[.int .u64 t167, .int .u64 0]) ?_ 1 _ rfl; (with_reducible repeat (first | refine blk_drewN ?_ _ | refine blk_drew ?_ | refine blk_alloc ?_ _)); refine blk_put (cs := #[.int .u64 0, .int .u64 0]) ?_ 0 _ rfl; (with_reducible repeat (first | refine blk_drewN ?_ _ | refine blk_drew ?_ | refine blk_alloc ?_ _)); exact BK170.out))⟩; have n3_ : Aside0 (Below w.heap.size w w37) := ⟨(by rw [hw]; exact (by repeat (first | (with_reducible first | exact HB.out | apply below_alloc | apply pw_below_drewN | apply below_drew1 | refine below_set ?_ GE170.out) | exact HB.out)))⟩; clear hw; clear HO_10; clear HO_11; clear BK170; clear HB; have HO_10 := n0_; have HO_11 := n1_; have BK170 := n2_; have HB := n3_; clear n0_ n1_ n2_ n3_; have hcz38_0 : w37.cell? ⟨gb170, 0, none⟩ = some (.int .u64 t167) := (blk_cell BK170.out 0).trans rfl; have hcz38_1 : w37.cell? ⟨gb170, 1, none⟩ = some (.int .u64 t168) := (blk_cell BK170.out 1).trans rfl; have hfz38_0 := blk_frozen BK170.out 0; have hfz38_1 := blk_frozen BK170.out 1; have p30 : 0 ≤ (x13_5 : Int) := of_decide_eq_true (by first | (with_reducible assumption) | assumption); have q30 : (x13_5 : Int) < ((x10_5.length : Int) : Int) := of_decide_eq_true (by first | (with_reducible assumption) | assumption); obtain ⟨go30, co30, eo30, gb30, gl30, cl30, HG30⟩ := Kd.R_form HO_10.out (by omega); (first | cases eo30 | (injection eo30 with ea_ en_ ec_; (first | subst ea_ | (injection ea_ with ea_; subst ea_)); subst ec_; clear en_)); have GB30 := Aside0.mk gb30; have GG30 := Aside0.mk HG30; clear gb30 gl30 HG30; obtain ⟨hx30_0, hf30_0⟩ := Kd.R_celln 0 HO_10.out (x13_5 : Int) p30 q30; replace p30 := eq_true p30; replace q30 := eq_true q30; obtain ⟨hy39_, hz39_⟩ := Kd.R_celln 0 HO_10.out (x13_5 : Int) (of_decide_eq_true (by first | (with_reducible assumption) | assumption)) (of_decide_eq_true (by first | (with_reducible assumption) | assumption)); have HP39 := Kd.R_putg HO_10.out (x13_5 : Int) (wrap64 (t168))) | ((with_reducible refine gate_store (t := 3) (p := 112) rfl ?_); refine store_event (t := 3) (p := 112) (v := ?vo_w40) (w1 := (w37.setCell ⟨go30, (x13_5 : Int).toNat, none⟩ (.int .i64 (wrap64 (t168))))) ?hg ?ho ?hn ?hr ?_; (case ho => rfl); (case hg => rfl); (case hn => rfl); (case hr => first | (go_simp; done) | (go_simp; rfl)); intro w40 hw; have hg : w37.grownBy w40 (some go30) := (by rw [hw]; exact HP39.2); have hp_ : Kd.R (Kd.int .i64) 3 w40 w.heap.size (fun k_ => some k_ ≠ (v162 : Value).ownBlock) (.slice (some ⟨go30, 0, none⟩) x10_5.length co30) y171 := (by rw [hw, Ny171.out]; exact HP39.1); clear HP39; have n0_ := Aside0.mk (hp_); have n1_ := Aside0.mk (Kd.R_after (v := (.slice (some ⟨go30, 0, none⟩) x10_5.length co30)) (v1 := (.slice (some ⟨go30, 0, none⟩) x10_5.length co30)) (ok := (fun _ => True)) (by (with_reducible repeat (first | apply Kd.R_alloc | apply Kd.R_drewN | apply Kd.R_drew)); exact Kd.R_mono HO_11.out (fun _ hk => ⟨trivial, hk⟩)) hg (.inl rfl)); have n2_ := Aside0.mk (blk_grown (g := gb170) (o := .cells #[.int .u64 t167, .int .u64 t168] 47 (0, 0)) (by (with_reducible repeat (first | refine blk_drewN ?_ _ | refine blk_drew ?_ | refine blk_alloc ?_ _)); exact BK170.out) hg (Kd.R_ne HO_10.out BK170.out (by decide))); have n3_ := Aside0.mk ((by rw [hw]; exact below_set (HB.out) GB30.out : Below w.heap.size w w40)); clear HO_10; clear HO_11; clear BK170; clear HB; have HO_10 := n0_; have HO_11 := n1_; have BK170 := n2_; have HB := n3_; clear n0_ n1_ n2_ n3_; clear hg hw hp_; have p32 : 0 ≤ (x13_5 : Int) := of_decide_eq_true (by first | (with_reducible assumption) | assumption); have q32 : (x13_5 : Int) < ((x11_5.length : Int) : Int) := of_decide_eq_true (by first | (with_reducible assumption) | assumption); obtain ⟨go32, co32, eo32, gb32, gl32, cl32, HG32⟩ := Kd.R_form HO_11.out (by omega); (first | cases eo32 | (injection eo32 with ea_ en_ ec_; (first | subst ea_ | (injection ea_ with ea_; subst ea_)); subst ec_; clear en_)); have GB32 := Aside0.mk gb32; have GG32 := Aside0.mk HG32; clear gb32 gl32 HG32; obtain ⟨hx32_0, hf32_0⟩ := Kd.R_celln 0 HO_11.out (x13_5 : Int) p32 q32; replace p32 := eq_true p32; replace q32 := eq_true q32; have n_ := Aside0.mk (Kd.R_mono (ok' := (fun k_ => some k_ ≠ (.slice (some ⟨go30, 0, none⟩) x10_5.length co30 : Value).ownBlock)) HO_11.out (fun k_ hk => hk.2)); clear HO_11; have HO_11 := n_; clear n_; obtain ⟨hy41_, hz41_⟩ := Kd.R_celln 0 HO_11.out (x13_5 : Int) (of_decide_eq_true (by first | (with_reducible assumption) | assumption)) (of_decide_eq_true (by first | (with_reducible assumption) | assumption)); have HP41 := Kd.R_putg HO_11.out (x13_5 : Int) (wrap64 (t169))) | ((with_reducible refine gate_store (t := 3) (p := 113) rfl ?_); refine store_event (t := 3) (p := 113) (v := ?vo_w42) (w1 := (w40.setCell ⟨go32, (x13_5 : Int).toNat, none⟩ (.int .i64 (wrap64 (t169))))) ?hg ?ho ?hn ?hr ?_; (case ho => rfl); (case hg => rfl); (case hn => rfl); (case hr => first | (go_simp; done) | (go_simp; rfl)); intro w42 hw; have hg : w40.grownBy w42 (some go32) := (by rw [hw]; exact HP41.2); have hp_ : Kd.R (Kd.int .i64) 3 w42 w.heap.size (fun k_ => some k_ ≠ (.slice (some ⟨go30, 0, none⟩) x10_5.length co30 : Value).ownBlock) (.slice (some ⟨go32, 0, none⟩) x11_5.length co32) y172 := (by rw [hw, Ny172.out]; exact HP41.1); clear HP41; have n0_ := Aside0.mk (Kd.R_after (v := (.slice (some ⟨go32, 0, none⟩) x11_5.length co32)) (v1 := (.slice (some ⟨go32, 0, none⟩) x11_5.length co32)) (ok := (fun _ => True)) (by (with_reducible repeat (first | apply Kd.R_alloc | apply Kd.R_drewN | apply Kd.R_drew)); exact Kd.R_mono HO_10.out (fun _ hk => ⟨trivial, hk⟩)) hg (.inl rfl)); have n1_ := Aside0.mk (hp_); have n2_ := Aside0.mk (blk_grown (g := gb170) (o := .cells #[.int .u64 t167, .int .u64 t168] 47 (0, 0)) (by (with_reducible repeat (first | refine blk_drewN ?_ _ | refine blk_drew ?_ | refine blk_alloc ?_ _)); exact BK170.out) hg (Kd.R_ne HO_11.out BK170.out (by decide))); have n3_ := Aside0.mk ((by rw [hw]; exact below_set (HB.out) GB32.out : Below w.heap.size w w42)); clear HO_10; clear HO_11; clear BK170; clear HB; have HO_10 := n0_; have HO_11 := n1_; have BK170 := n2_; have HB := n3_; clear n0_ n1_ n2_ n3_; clear hg hw hp_; have p173 : 0 ≤ (x13_5 : Int) := of_decide_eq_true (by first | (with_reducible assumption) | assumption); have q173 : x13_5 < (y171.length : Int) := (by have h_ : (x13_5 : Int) < ((x10_5.length : Int) : Int) := of_decide_eq_true (by first | (with_reducible assumption) | assumption); first | (have e_ := (Kd.R_reads' HO_10.out).1; omega) | simpa only [Ny171.out, List.length_set] using h_); have ql173 : ((x13_5 : Int) < ((x10_5.length : Int) : Int)) = True := eq_true (of_decide_eq_true (by first | (with_reducible assumption) | assumption)); obtain ⟨ad173, e173, hx173_0⟩ := Kd.at_int (Kd.R_reads' HO_10.out).2.2 x13_5 p173 q173; obtain rfl : (⟨go30, 0, none⟩ : Addr) = ad173 := (by injection e173); (first | simp only [add_plain] at hx173_0 | simp only [add_at] at hx173_0 | simp only [Addr.add, Nat.zero_add] at hx173_0 | skip); replace p173 := eq_true p173; replace q173 := eq_true q173))
                                              go_roundg k5
                                              case measure => have := HJ3.out; have := HK2.out; have := HJ10.out; have := HK4.out; have := HK5.out; omega
                                              case rel => exact ⟨(y171), (y172), (wrap64 (x12_5 - (rd y171 x13_5))), (wrap64 (x13_5 + 1)), (by first | rfl | (simp; done) | (simp [*]; done)), (by first | rfl | (simp; done) | (simp [*]; done)), H', ⟨by have := HJ3.out; have := HK2.out; have := HJ10.out; have := HK4.out; have := HK5.out; omega⟩, ⟨by (with_reducible repeat (first | apply Kd.R_alloc | apply Kd.R_drewN | apply Kd.R_drew)); exact Kd.R_mono HO_10.out (fun _ hk => hk.2)⟩, ⟨by (with_reducible repeat (first | apply Kd.R_alloc | apply Kd.R_drewN | apply Kd.R_drew)); exact HO_11.out⟩, ⟨by repeat (first | (with_reducible first | exact HB.out | apply below_alloc | apply pw_below_drewN | apply below_drew1 | refine below_set ?_ GE170.out) | exact HB.out)⟩⟩
                                            · rw [if_neg c31] at H
                                              exact absurd H (by simp)
                                          · rw [if_neg c29] at H
                                            exact absurd H (by simp)
                                        · rw [if_neg c26] at H
                                          have c26b0 : (x7_4 == 0) = false := beq_eq_false_iff_ne.mpr c26
                                          have c26b1 : (x7_4 != 0) = true := bne_iff_ne.mpr c26
                                          replace H := Option.bind_eq_some_iff.mp H
                                          obtain ⟨⟨t174, t175⟩, A430, H⟩ := H
                                          replace H : ((customsref01_DivMod.f k5 t174 t175 (IntKind.u64.wrap (x7_4))).bind fun bt176 => (if x13_5 < (x10_5.length : Int) then ((some (x10_5.set (x13_5 : Int).toNat (wrap64 (bt176.2.1)) : List Int)).bind fun y180 => (if x13_5 < (x11_5.length : Int) then (customsref02_Share.l2 k5 a0 l1 x7_4 y180 (x11_5.set (x13_5 : Int).toNat (wrap64 (bt176.2.2))) (wrap64 (x12_5 - (rd y180 x13_5))) (wrap64 (x13_5 + 1))) else (none))) else (none))) = some (r1, r2) := H
                                          have A43 := Aside0.mk A430
                                          clear A430
                                          replace H := Option.bind_eq_some_iff.mp H
                                          obtain ⟨⟨t176, t177, t178⟩, A440, H⟩ := H
                                          replace H : (if x13_5 < (x10_5.length : Int) then ((some (x10_5.set (x13_5 : Int).toNat (wrap64 (t177)) : List Int)).bind fun y180 => (if x13_5 < (x11_5.length : Int) then (customsref02_Share.l2 k5 a0 l1 x7_4 y180 (x11_5.set (x13_5 : Int).toNat (wrap64 (t178))) (wrap64 (x12_5 - (rd y180 x13_5))) (wrap64 (x13_5 + 1))) else (none))) else (none)) = some (r1, r2) := H
                                          have A44 := Aside0.mk A440
                                          clear A440
                                          by_cases c45 : x13_5 < (x10_5.length : Int)
                                          · rw [if_pos c45] at H
                                            have c45b0 : decide (x13_5 < (x10_5.length : Int)) = true := decide_eq_true c45
                                            clear c45
                                            obtain ⟨y180, hy180⟩ : ∃ y_ : List Int, y_ = (x10_5.set (x13_5 : Int).toNat (wrap64 (t177))) := ⟨_, rfl⟩
                                            replace H : (if x13_5 < (x11_5.length : Int) then (customsref02_Share.l2 k5 a0 l1 x7_4 y180 (x11_5.set (x13_5 : Int).toNat (wrap64 (t178))) (wrap64 (x12_5 - (rd y180 x13_5))) (wrap64 (x13_5 + 1))) else (none)) = some (r1, r2) := by first | (rw [hy180]; with_reducible exact H) | (have H2_ := (Option.bind_some _ _).symm.trans H; rw [hy180]; with_reducible exact H2_) | (have H2_ := (Option.bind_some _ _).symm.trans H; with_reducible exact H2_) | with_reducible exact H | (rw [hy180]; exact H) | exact H
                                            have Ny180 := Aside0.mk hy180
                                            clear hy180
                                            by_cases c47 : x13_5 < (x11_5.length : Int)
                                            · rw [if_pos c47] at H
                                              have c47b0 : decide (x13_5 < (x11_5.length : Int)) = true := decide_eq_true c47
                                              clear c47
                                              obtain ⟨y181, hy181⟩ : ∃ y_ : List Int, y_ = (x11_5.set (x13_5 : Int).toNat (wrap64 (t178))) := ⟨_, rfl⟩
                                              replace H : (customsref02_Share.l2 k5 a0 l1 x7_4 y180 y181 (wrap64 (x12_5 - (rd y180 x13_5))) (wrap64 (x13_5 + 1))) = some (r1, r2) := by first | (rw [hy181]; with_reducible exact H) | (have H2_ := (Option.bind_some _ _).symm.trans H; rw [hy181]; with_reducible exact H2_) | (have H2_ := (Option.bind_some _ _).symm.trans H; with_reducible exact H2_) | with_reducible exact H | (rw [hy181]; exact H) | exact H
                                              have Ny181 := Aside0.mk hy181
                                              clear hy181
                                              have H' := Aside0.mk H
                                              clear H
                                              have p164 : 0 ≤ (x13_5 : Int) := of_decide_eq_true (by first | (with_reducible assumption) | assumption)
                                              have q164 : x13_5 < (l1.length : Int) := of_decide_eq_true (by first | (with_reducible assumption) | assumption)
                                              obtain ⟨ad164, e164, hx164_0⟩ := Kd.at_int HR1.out x13_5 p164 q164
                                              cases e164
                                              replace hx164_0 := (HB.out.cell (World.block_lt_of_cell? w _ hx164_0)).trans hx164_0
                                              replace p164 := eq_true p164
                                              replace q164 := eq_true q164
                                              go_wp2_with (first | ((with_reducible refine gate_callee (f := 26) rfl ?_); refine goesL_ (some 97) rfl rfl Try.func26 (by kernel_rfl) rfl #[.int .u64 (IntKind.u64.wrap (a0)), .int .u64 (IntKind.u64.wrap (rd l1 x13_5))] rfl (by (try simp only [List.map_toArray, List.map_cons, List.map_nil]); first | done | rfl | (simp only [List.length_drop, List.length_take]; rfl)) ?_; (with_reducible refine (customsref01_Mul.calls k5 (IntKind.u64.wrap (a0)) (IntKind.u64.wrap (rd l1 x13_5)) t174 t175 _ A43.out).mono ?_); rintro e w49 ⟨rfl, hb⟩; refine ⟨_, rfl, ?_⟩; have n0_ := Aside0.mk (Kd.R_below (by (with_reducible repeat (first | apply Kd.R_alloc | apply Kd.R_drewN | apply Kd.R_drew)); exact HO_10.out) hb); have n1_ := Aside0.mk (Kd.R_below (by (with_reducible repeat (first | apply Kd.R_alloc | apply Kd.R_drewN | apply Kd.R_drew)); exact HO_11.out) hb); have n2_ := Aside0.mk (below_step (by repeat (first | (with_reducible first | exact HB.out | apply below_alloc | apply pw_below_drewN | apply below_drew1) | exact HB.out)) hb); clear HO_10; clear HO_11; clear HB; have HO_10 := n0_; have HO_11 := n1_; have HB := n2_; clear n0_ n1_ n2_; (try clear hb); (try clear hb2); (try clear hk); (try clear hi)) | ((with_reducible refine gate_callee (f := 25) rfl ?_); refine goesL_ (some 100) rfl rfl Try.func25 (by kernel_rfl) rfl #[.agg #[.int .u64 t174, .int .u64 t175], .int .u64 (IntKind.u64.wrap (x7_4))] rfl (by (try simp only [List.map_toArray, List.map_cons, List.map_nil]); first | done | rfl | (simp only [List.length_drop, List.length_take]; rfl)) ?_; (with_reducible refine (customsref01_DivMod.calls k5 t174 t175 (IntKind.u64.wrap (x7_4)) t176 t177 t178 _ A44.out).mono ?_); rintro e w50 ⟨rfl, hb⟩; refine ⟨_, rfl, ?_⟩; have n0_ := Aside0.mk (Kd.R_below (by (with_reducible repeat (first | apply Kd.R_alloc | apply Kd.R_drewN | apply Kd.R_drew)); exact HO_10.out) hb); have n1_ := Aside0.mk (Kd.R_below (by (with_reducible repeat (first | apply Kd.R_alloc | apply Kd.R_drewN | apply Kd.R_drew)); exact HO_11.out) hb); have n2_ := Aside0.mk (below_step (by repeat (first | (with_reducible first | exact HB.out | apply below_alloc | apply pw_below_drewN | apply below_drew1) | exact HB.out)) hb); clear HO_10; clear HO_11; clear HB; have HO_10 := n0_; have HO_11 := n1_; have HB := n2_; clear n0_ n1_ n2_; (try clear hb); (try clear hb2); (try clear hk); (try clear hi)) | ((with_reducible refine gate_dst (N := 16) rfl ?_); refine box_event ?hg (N := 16) ?hd (cs := #[.int .u64 0, .int .u64 0]) (t := 47) ?hr ?_; (case hd => rfl); (case hg => rfl); (case hr => first | (go_simp; done) | (go_simp; rfl)); intro gb179 hg w51 hbox hb; have n0_ := Aside0.mk (Kd.R_below (by (with_reducible repeat (first | apply Kd.R_alloc | apply Kd.R_drewN | apply Kd.R_drew)); exact HO_10.out) hb); have n1_ := Aside0.mk (Kd.R_below (by (with_reducible repeat (first | apply Kd.R_alloc | apply Kd.R_drewN | apply Kd.R_drew)); exact HO_11.out) hb); have n2_ := Aside0.mk (below_step (by repeat (first | (with_reducible first | exact HB.out | apply below_alloc | apply pw_below_drewN | apply below_drew1) | exact HB.out)) hb); have n3_ := Aside0.mk (hbox); have n4_ := Aside0.mk ((by rw [hg]; exact (below_size (by repeat (first | (with_reducible first | exact HB.out | apply below_alloc | apply pw_below_drewN | apply below_drew1) | exact HB.out))) : w.heap.size ≤ gb179)); have n5_ := Aside0.mk ((by rw [hg]; exact (below_size (by repeat (first | (with_reducible first | exact HB.out | apply below_alloc | apply pw_below_drewN | apply below_drew1) | exact HB.out))) : w.heap.size ≤ gb179)); clear HO_10; clear HO_11; clear HB; have HO_10 := n0_; have HO_11 := n1_; have HB := n2_; have BK179 := n3_; have GW179 := n4_; have GE179 := n5_; clear n0_ n1_ n2_ n3_ n4_ n5_; clear hb hbox hg; have hcz52_0 : w51.cell? ⟨gb179, 0, none⟩ = some (.int .u64 0) := (blk_cell BK179.out 0).trans rfl; have hcz52_1 : w51.cell? ⟨gb179, 1, none⟩ = some (.int .u64 0) := (blk_cell BK179.out 1).trans rfl; have hfz52_0 := blk_frozen BK179.out 0; have hfz52_1 := blk_frozen BK179.out 1) | ((with_reducible refine gate_store (t := 47) (p := 16) rfl ?_); refine store_event (t := 47) (p := 16) (v := ?vo_w53) (w1 := ((w51.setCell ⟨gb179, 0, none⟩ (.int .u64 t176)).setCell ⟨gb179, 1, none⟩ (.int .u64 t177))) ?hg ?ho ?hn ?hr ?_; (case ho => rfl); (case hg => rfl); (case hn => rfl); (case hr => first | (go_simp; done) | (go_simp; rfl)); intro w53 hw; have n0_ : Aside0 (Kd.R (Kd.int .i64) 3 w53 w.heap.size (fun k_ => some k_ ≠ (v162 : Value).ownBlock) v159 x10_5) := ⟨(by rw [hw]; exact (by (with_reducible repeat (first | apply Kd.R_alloc | apply Kd.R_drewN | apply Kd.R_drew)); exact Kd.R_mono (Kd.R_far (p := ⟨gb179, 1, none⟩) (Kd.R_far (p := ⟨gb179, 0, none⟩) (Kd.R_types HO_10.out BK179.out (by decide)) (fun _ hk => hk.2) (.int .u64 t176)) (fun _ hk => hk.2) (.int .u64 t177)) (fun _ hk => hk.1)))⟩; have n1_ : Aside0 (Kd.R (Kd.int .i64) 3 w53 w.heap.size (fun k_ => some k_ ≠ (v159 : Value).ownBlock) v162 x11_5) := ⟨(by rw [hw]; exact (by (with_reducible repeat (first | apply Kd.R_alloc | apply Kd.R_drewN | apply Kd.R_drew)); exact Kd.R_mono (Kd.R_far (p := ⟨gb179, 1, none⟩) (Kd.R_far (p := ⟨gb179, 0, none⟩) (Kd.R_types HO_11.out BK179.out (by decide)) (fun _ hk => hk.2) (.int .u64 t176)) (fun _ hk => hk.2) (.int .u64 t177)) (fun _ hk => hk.1)))⟩; have n2_ : Aside0 (w53.heap[gb179]? = some (.cells #[.int .u64 t176, .int .u64 t177] 47 (0, 0))) := ⟨(by rw [hw]; exact (by (with_reducible repeat (first | refine blk_drewN ?_ _ | refine blk_drew ?_ | refine blk_alloc ?_ _)); refine blk_put (cs := #[.int .u64 t176, .int .u64 0]) ?_ 1 _ rfl; (with_reducible repeat (first | refine blk_drewN ?_ _ | refine blk_drew ?_ | refine blk_alloc ?_ _)); refine blk_put (cs := #[.int .u64 0, .int .u64 0]) ?_ 0 _ rfl; (with_reducible repeat (first | refine blk_drewN ?_ _ | refine blk_drew ?_ | refine blk_alloc ?_ _)); exact BK179.out))⟩; have n3_ : Aside0 (Below w.heap.size w w53) := ⟨(by rw [hw]; exact (by repeat (first | (with_reducible first | exact HB.out | apply below_alloc | apply pw_below_drewN | apply below_drew1 | refine below_set ?_ GE179.out) | exact HB.out)))⟩; clear hw; clear HO_10; clear HO_11; clear BK179; clear HB; have HO_10 := n0_; have HO_11 := n1_; have BK179 := n2_; have HB := n3_; clear n0_ n1_ n2_ n3_; have hcz54_0 : w53.cell? ⟨gb179, 0, none⟩ = some (.int .u64 t176) := (blk_cell BK179.out 0).trans rfl; have hcz54_1 : w53.cell? ⟨gb179, 1, none⟩ = some (.int .u64 t177) := (blk_cell BK179.out 1).trans rfl; have hfz54_0 := blk_frozen BK179.out 0; have hfz54_1 := blk_frozen BK179.out 1; have p46 : 0 ≤ (x13_5 : Int) := of_decide_eq_true (by first | (with_reducible assumption) | assumption); have q46 : (x13_5 : Int) < ((x10_5.length : Int) : Int) := of_decide_eq_true (by first | (with_reducible assumption) | assumption); obtain ⟨go46, co46, eo46, gb46, gl46, cl46, HG46⟩ := Kd.R_form HO_10.out (by omega); (first | cases eo46 | (injection eo46 with ea_ en_ ec_; (first | subst ea_ | (injection ea_ with ea_; subst ea_)); subst ec_; clear en_)); have GB46 := Aside0.mk gb46; have GG46 := Aside0.mk HG46; clear gb46 gl46 HG46; obtain ⟨hx46_0, hf46_0⟩ := Kd.R_celln 0 HO_10.out (x13_5 : Int) p46 q46; replace p46 := eq_true p46; replace q46 := eq_true q46; obtain ⟨hy55_, hz55_⟩ := Kd.R_celln 0 HO_10.out (x13_5 : Int) (of_decide_eq_true (by first | (with_reducible assumption) | assumption)) (of_decide_eq_true (by first | (with_reducible assumption) | assumption)); have HP55 := Kd.R_putg HO_10.out (x13_5 : Int) (wrap64 (t177))) | ((with_reducible refine gate_store (t := 3) (p := 112) rfl ?_); refine store_event (t := 3) (p := 112) (v := ?vo_w56) (w1 := (w53.setCell ⟨go46, (x13_5 : Int).toNat, none⟩ (.int .i64 (wrap64 (t177))))) ?hg ?ho ?hn ?hr ?_; (case ho => rfl); (case hg => rfl); (case hn => rfl); (case hr => first | (go_simp; done) | (go_simp; rfl)); intro w56 hw; have hg : w53.grownBy w56 (some go46) := (by rw [hw]; exact HP55.2); have hp_ : Kd.R (Kd.int .i64) 3 w56 w.heap.size (fun k_ => some k_ ≠ (v162 : Value).ownBlock) (.slice (some ⟨go46, 0, none⟩) x10_5.length co46) y180 := (by rw [hw, Ny180.out]; exact HP55.1); clear HP55; have n0_ := Aside0.mk (hp_); have n1_ := Aside0.mk (Kd.R_after (v := (.slice (some ⟨go46, 0, none⟩) x10_5.length co46)) (v1 := (.slice (some ⟨go46, 0, none⟩) x10_5.length co46)) (ok := (fun _ => True)) (by (with_reducible repeat (first | apply Kd.R_alloc | apply Kd.R_drewN | apply Kd.R_drew)); exact Kd.R_mono HO_11.out (fun _ hk => ⟨trivial, hk⟩)) hg (.inl rfl)); have n2_ := Aside0.mk (blk_grown (g := gb179) (o := .cells #[.int .u64 t176, .int .u64 t177] 47 (0, 0)) (by (with_reducible repeat (first | refine blk_drewN ?_ _ | refine blk_drew ?_ | refine blk_alloc ?_ _)); exact BK179.out) hg (Kd.R_ne HO_10.out BK179.out (by decide))); have n3_ := Aside0.mk ((by rw [hw]; exact below_set (HB.out) GB46.out : Below w.heap.size w w56)); clear HO_10; clear HO_11; clear BK179; clear HB; have HO_10 := n0_; have HO_11 := n1_; have BK179 := n2_; have HB := n3_; clear n0_ n1_ n2_ n3_; clear hg hw hp_; have p48 : 0 ≤ (x13_5 : Int) := of_decide_eq_true (by first | (with_reducible assumption) | assumption); have q48 : (x13_5 : Int) < ((x11_5.length : Int) : Int) := of_decide_eq_true (by first | (with_reducible assumption) | assumption); obtain ⟨go48, co48, eo48, gb48, gl48, cl48, HG48⟩ := Kd.R_form HO_11.out (by omega); (first | cases eo48 | (injection eo48 with ea_ en_ ec_; (first | subst ea_ | (injection ea_ with ea_; subst ea_)); subst ec_; clear en_)); have GB48 := Aside0.mk gb48; have GG48 := Aside0.mk HG48; clear gb48 gl48 HG48; obtain ⟨hx48_0, hf48_0⟩ := Kd.R_celln 0 HO_11.out (x13_5 : Int) p48 q48; replace p48 := eq_true p48; replace q48 := eq_true q48; have n_ := Aside0.mk (Kd.R_mono (ok' := (fun k_ => some k_ ≠ (.slice (some ⟨go46, 0, none⟩) x10_5.length co46 : Value).ownBlock)) HO_11.out (fun k_ hk => hk.2)); clear HO_11; have HO_11 := n_; clear n_; obtain ⟨hy57_, hz57_⟩ := Kd.R_celln 0 HO_11.out (x13_5 : Int) (of_decide_eq_true (by first | (with_reducible assumption) | assumption)) (of_decide_eq_true (by first | (with_reducible assumption) | assumption)); have HP57 := Kd.R_putg HO_11.out (x13_5 : Int) (wrap64 (t178))) | ((with_reducible refine gate_store (t := 3) (p := 113) rfl ?_); refine store_event (t := 3) (p := 113) (v := ?vo_w58) (w1 := (w56.setCell ⟨go48, (x13_5 : Int).toNat, none⟩ (.int .i64 (wrap64 (t178))))) ?hg ?ho ?hn ?hr ?_; (case ho => rfl); (case hg => rfl); (case hn => rfl); (case hr => first | (go_simp; done) | (go_simp; rfl)); intro w58 hw; have hg : w56.grownBy w58 (some go48) := (by rw [hw]; exact HP57.2); have hp_ : Kd.R (Kd.int .i64) 3 w58 w.heap.size (fun k_ => some k_ ≠ (.slice (some ⟨go46, 0, none⟩) x10_5.length co46 : Value).ownBlock) (.slice (some ⟨go48, 0, none⟩) x11_5.length co48) y181 := (by rw [hw, Ny181.out]; exact HP57.1); clear HP57; have n0_ := Aside0.mk (Kd.R_after (v := (.slice (some ⟨go48, 0, none⟩) x11_5.length co48)) (v1 := (.slice (some ⟨go48, 0, none⟩) x11_5.length co48)) (ok := (fun _ => True)) (by (with_reducible repeat (first | apply Kd.R_alloc | apply Kd.R_drewN | apply Kd.R_drew)); exact Kd.R_mono HO_10.out (fun _ hk => ⟨trivial, hk⟩)) hg (.inl rfl)); have n1_ := Aside0.mk (hp_); have n2_ := Aside0.mk (blk_grown (g := gb179) (o := .cells #[.int .u64 t176, .int .u64 t177] 47 (0, 0)) (by (with_reducible repeat (first | refine blk_drewN ?_ _ | refine blk_drew ?_ | refine blk_alloc ?_ _)); exact BK179.out) hg (Kd.R_ne HO_11.out BK179.out (by decide))); have n3_ := Aside0.mk ((by rw [hw]; exact below_set (HB.out) GB48.out : Below w.heap.size w w58)); clear HO_10; clear HO_11; clear BK179; clear HB; have HO_10 := n0_; have HO_11 := n1_; have BK179 := n2_; have HB := n3_; clear n0_ n1_ n2_ n3_; clear hg hw hp_; have p182 : 0 ≤ (x13_5 : Int) := of_decide_eq_true (by first | (with_reducible assumption) | assumption); have q182 : x13_5 < (y180.length : Int) := (by have h_ : (x13_5 : Int) < ((x10_5.length : Int) : Int) := of_decide_eq_true (by first | (with_reducible assumption) | assumption); first | (have e_ := (Kd.R_reads' HO_10.out).1; omega) | simpa only [Ny180.out, List.length_set] using h_); have ql182 : ((x13_5 : Int) < ((x10_5.length : Int) : Int)) = True := eq_true (of_decide_eq_true (by first | (with_reducible assumption) | assumption)); obtain ⟨ad182, e182, hx182_0⟩ := Kd.at_int (Kd.R_reads' HO_10.out).2.2 x13_5 p182 q182; obtain rfl : (⟨go46, 0, none⟩ : Addr) = ad182 := (by injection e182); (first | simp only [add_plain] at hx182_0 | simp only [add_at] at hx182_0 | simp only [Addr.add, Nat.zero_add] at hx182_0 | skip); replace p182 := eq_true p182; replace q182 := eq_true q182))
                                              go_roundg k5
                                              case measure => have := HJ3.out; have := HK2.out; have := HJ10.out; have := HK4.out; have := HK5.out; omega
                                              case rel => exact ⟨(y180), (y181), (wrap64 (x12_5 - (rd y180 x13_5))), (wrap64 (x13_5 + 1)), (by first | rfl | (simp; done) | (simp [*]; done)), (by first | rfl | (simp; done) | (simp [*]; done)), H', ⟨by have := HJ3.out; have := HK2.out; have := HJ10.out; have := HK4.out; have := HK5.out; omega⟩, ⟨by (with_reducible repeat (first | apply Kd.R_alloc | apply Kd.R_drewN | apply Kd.R_drew)); exact Kd.R_mono HO_10.out (fun _ hk => hk.2)⟩, ⟨by (with_reducible repeat (first | apply Kd.R_alloc | apply Kd.R_drewN | apply Kd.R_drew)); exact HO_11.out⟩, ⟨by repeat (first | (with_reducible first | exact HB.out | apply below_alloc | apply pw_below_drewN | apply below_drew1 | refine below_set ?_ GE179.out) | exact HB.out)⟩⟩
                                            · rw [if_neg c47] at H
                                              exact absurd H (by simp)
                                          · rw [if_neg c45] at H
                                            exact absurd H (by simp)
                                      · rw [if_neg c25] at H
                                        exact absurd H (by simp)
                                    · rw [if_neg c24] at H
                                      have c24b0 : decide (x13_5 < (l1.length : Int)) = false := decide_eq_false c24
                                      clear c24
                                      have H' := Aside0.mk H
                                      clear H
                                      go_wp2
                                      go_loopg [12] k5 (fun kq v12 w' => ∃ (x10_6 : List Int) (x11_6 : List Int) (x12_6 : Int), v12 = .int .i64 x12_6 ∧ Aside0 (customsref02_Share.l3 kq x10_6 x11_6 x12_6 = some (r1, r2)) ∧ Aside0 (kq ≤ k5) ∧ Aside0 (Kd.R (Kd.int .i64) 3 w' w.heap.size (fun k_ => some k_ ≠ (v162 : Value).ownBlock) v159 x10_6) ∧ Aside0 (Kd.R (Kd.int .i64) 3 w' w.heap.size (fun k_ => some k_ ≠ (v159 : Value).ownBlock) v162 x11_6) ∧ Aside0 (Below w.heap.size w w'))
                                      case atStart => exact ⟨(x10_5), (x11_5), (x12_5), (by first | rfl | (simp; done) | (simp [*]; done)), H', ⟨Nat.le_refl _⟩, ⟨by (with_reducible repeat (first | apply Kd.R_alloc | apply Kd.R_drewN | apply Kd.R_drew)); exact HO_10.out⟩, ⟨by (with_reducible repeat (first | apply Kd.R_alloc | apply Kd.R_drewN | apply Kd.R_drew)); exact HO_11.out⟩, ⟨by repeat (first | (with_reducible first | exact HB.out | apply below_alloc | apply pw_below_drewN | apply below_drew1) | exact HB.out)⟩⟩
                                      case round =>
                                        clear H'
                                        try clear c1
                                        try clear p1
                                        try clear q1
                                        try clear hx1
                                        try clear c2
                                        try clear p2
                                        try clear c3
                                        try clear c3b0
                                        try clear c3b1
                                        try clear p3
                                        try clear q3
                                        try clear hx3
                                        try clear hf3
                                        try clear c4
                                        try clear p4
                                        try clear q4
                                        try clear hx4
                                        try clear hf4
                                        try clear c5
                                        try clear c5b0
                                        try clear c6
                                        try clear c6b0
                                        try clear p6
                                        try clear c7
                                        try clear c8
                                        try clear c8b0
                                        try clear c9
                                        try clear c9b0
                                        try clear c10
                                        try clear c12
                                        try clear c12b0
                                        try clear c12b1
                                        try clear c12b2
                                        try clear c13
                                        try clear c14
                                        try clear c14b0
                                        try clear c15
                                        try clear c15b0
                                        try clear p15
                                        try clear q15
                                        try clear hx15
                                        try clear c16
                                        try clear c16b0
                                        try clear c16b1
                                        try clear p16
                                        try clear q16
                                        try clear hx16
                                        try clear c17
                                        try clear c17b0
                                        try clear c17b1
                                        try clear p17
                                        try clear q17
                                        try clear hx17
                                        try clear p18
                                        try clear q18
                                        try clear hx18
                                        try clear c24
                                        try clear c24b0
                                        try clear c25
                                        try clear c25b0
                                        try clear c26
                                        try clear c26b0
                                        try clear c26b1
                                        try clear c29
                                        try clear c29b0
                                        try clear p30
                                        try clear q30
                                        try clear hx30
                                        try clear hf30
                                        try clear c31
                                        try clear c31b0
                                        try clear p32
                                        try clear q32
                                        try clear hx32
                                        try clear hf32
                                        try clear c45
                                        try clear c45b0
                                        try clear p46
                                        try clear q46
                                        try clear hx46
                                        try clear hf46
                                        try clear c47
                                        try clear c47b0
                                        try clear p48
                                        try clear q48
                                        try clear hx48
                                        try clear hf48
                                        try clear hcz36_0
                                        try clear hcz36_1
                                        try clear hcz38_0
                                        try clear hcz38_1
                                        try clear hcz52_0
                                        try clear hcz52_1
                                        try clear hcz54_0
                                        try clear hcz54_1
                                        try clear hfz36_0
                                        try clear hfz36_1
                                        try clear hfz38_0
                                        try clear hfz38_1
                                        try clear hfz52_0
                                        try clear hfz52_1
                                        try clear hfz54_0
                                        try clear hfz54_1
                                        try clear hx155_0
                                        try clear hx156_0
                                        try clear hx157_0
                                        try clear hx164_0
                                        try clear hx173_0
                                        try clear hx182_0
                                        try clear hx30_0
                                        try clear hx32_0
                                        try clear hx46_0
                                        try clear hx48_0
                                        try clear p1
                                        try clear p15
                                        try clear p155
                                        try clear p156
                                        try clear p157
                                        try clear p164
                                        try clear p173
                                        try clear p182
                                        try clear p2
                                        try clear p30
                                        try clear p32
                                        try clear p46
                                        try clear p48
                                        try clear p6
                                        try clear q1
                                        try clear q15
                                        try clear q155
                                        try clear q156
                                        try clear q157
                                        try clear q164
                                        try clear q173
                                        try clear q182
                                        try clear q30
                                        try clear q32
                                        try clear q46
                                        try clear q48
                                        obtain ⟨x10_6, x11_6, x12_6, rfl, HA, HK6, HO_10, HO_11, HB⟩ := hrel
                                        cases gk with
                                        | zero => exact absurd HA.out (by simp [customsref02_Share.l3])
                                        | succ k6 =>
                                          have H := HA.out
                                          clear HA
                                          simp only [customsref02_Share.l3] at H
                                          by_cases c59 : x12_6 > 0
                                          · rw [if_pos c59] at H
                                            have c59b0 : decide (0 < x12_6) = true := decide_eq_true c59
                                            clear c59
                                            have H' := Aside0.mk H
                                            clear H
                                            go_wp2
                                            go_loopg [18, 19] k6 (fun kq v18 v19 w' => ∃ (x18_7 : Int) (x19_7 : Int), v18 = .int .i64 x18_7 ∧ v19 = .int .i64 x19_7 ∧ Aside0 (customsref02_Share.l4 kq x10_6 x11_6 x12_6 x18_7 x19_7 = some (r1, r2)) ∧ Aside0 (kq ≤ k6) ∧ Aside0 (Kd.R (Kd.int .i64) 3 w' w.heap.size (fun k_ => some k_ ≠ (v162 : Value).ownBlock) v159 x10_6) ∧ Aside0 (Kd.R (Kd.int .i64) 3 w' w.heap.size (fun k_ => some k_ ≠ (v159 : Value).ownBlock) v162 x11_6) ∧ Aside0 (Below w.heap.size w w'))
                                            case atStart => exact ⟨(0), (1), (by first | rfl | (simp; done) | (simp [*]; done)), (by first | rfl | (simp; done) | (simp [*]; done)), H', ⟨Nat.le_refl _⟩, ⟨by (with_reducible repeat (first | apply Kd.R_alloc | apply Kd.R_drewN | apply Kd.R_drew)); exact HO_10.out⟩, ⟨by (with_reducible repeat (first | apply Kd.R_alloc | apply Kd.R_drewN | apply Kd.R_drew)); exact HO_11.out⟩, ⟨by repeat (first | (with_reducible first | exact HB.out | apply below_alloc | apply pw_below_drewN | apply below_drew1) | exact HB.out)⟩⟩
                                            case round =>
                                              clear H'
                                              try clear c1
                                              try clear p1
                                              try clear q1
                                              try clear hx1
                                              try clear c2
                                              try clear p2
                                              try clear c3
                                              try clear c3b0
                                              try clear c3b1
                                              try clear p3
                                              try clear q3
                                              try clear hx3
                                              try clear hf3
                                              try clear c4
                                              try clear p4
                                              try clear q4
                                              try clear hx4
                                              try clear hf4
                                              try clear c5
                                              try clear c5b0
                                              try clear c6
                                              try clear c6b0
                                              try clear p6
                                              try clear c7
                                              try clear c8
                                              try clear c8b0
                                              try clear c9
                                              try clear c9b0
                                              try clear c10
                                              try clear c12
                                              try clear c12b0
                                              try clear c12b1
                                              try clear c12b2
                                              try clear c13
                                              try clear c14
                                              try clear c14b0
                                              try clear c15
                                              try clear c15b0
                                              try clear p15
                                              try clear q15
                                              try clear hx15
                                              try clear c16
                                              try clear c16b0
                                              try clear c16b1
                                              try clear p16
                                              try clear q16
                                              try clear hx16
                                              try clear c17
                                              try clear c17b0
                                              try clear c17b1
                                              try clear p17
                                              try clear q17
                                              try clear hx17
                                              try clear p18
                                              try clear q18
                                              try clear hx18
                                              try clear c24
                                              try clear c24b0
                                              try clear c25
                                              try clear c25b0
                                              try clear c26
                                              try clear c26b0
                                              try clear c26b1
                                              try clear c29
                                              try clear c29b0
                                              try clear p30
                                              try clear q30
                                              try clear hx30
                                              try clear hf30
                                              try clear c31
                                              try clear c31b0
                                              try clear p32
                                              try clear q32
                                              try clear hx32
                                              try clear hf32
                                              try clear c45
                                              try clear c45b0
                                              try clear p46
                                              try clear q46
                                              try clear hx46
                                              try clear hf46
                                              try clear c47
                                              try clear c47b0
                                              try clear p48
                                              try clear q48
                                              try clear hx48
                                              try clear hf48
                                              try clear c59
                                              try clear c59b0
                                              try clear hcz36_0
                                              try clear hcz36_1
                                              try clear hcz38_0
                                              try clear hcz38_1
                                              try clear hcz52_0
                                              try clear hcz52_1
                                              try clear hcz54_0
                                              try clear hcz54_1
                                              try clear hfz36_0
                                              try clear hfz36_1
                                              try clear hfz38_0
                                              try clear hfz38_1
                                              try clear hfz52_0
                                              try clear hfz52_1
                                              try clear hfz54_0
                                              try clear hfz54_1
                                              try clear hx155_0
                                              try clear hx156_0
                                              try clear hx157_0
                                              try clear hx164_0
                                              try clear hx173_0
                                              try clear hx182_0
                                              try clear hx30_0
                                              try clear hx32_0
                                              try clear hx46_0
                                              try clear hx48_0
                                              try clear p1
                                              try clear p15
                                              try clear p155
                                              try clear p156
                                              try clear p157
                                              try clear p16
                                              try clear p164
                                              try clear p17
                                              try clear p173
                                              try clear p18
                                              try clear p182
                                              try clear p2
                                              try clear p3
                                              try clear p30
                                              try clear p32
                                              try clear p4
                                              try clear p46
                                              try clear p48
                                              try clear p6
                                              try clear q1
                                              try clear q15
                                              try clear q155
                                              try clear q156
                                              try clear q157
                                              try clear q16
                                              try clear q164
                                              try clear q17
                                              try clear q173
                                              try clear q18
                                              try clear q182
                                              try clear q3
                                              try clear q30
                                              try clear q32
                                              try clear q4
                                              try clear q46
                                              try clear q48
                                              obtain ⟨x18_7, x19_7, rfl, rfl, HA, HK7, HO_10, HO_11, HB⟩ := hrel
                                              cases gk with
                                              | zero => exact absurd HA.out (by simp [customsref02_Share.l4])
                                              | succ k7 =>
                                                have H := HA.out
                                                clear HA
                                                simp only [customsref02_Share.l4] at H
                                                by_cases c60 : x19_7 < (x11_6.length : Int)
                                                · rw [if_pos c60] at H
                                                  have c60b0 : decide (x19_7 < (x11_6.length : Int)) = true := decide_eq_true c60
                                                  clear c60
                                                  by_cases c61 : 0 ≤ x19_7
                                                  · rw [if_pos c61] at H
                                                    have c61b0 : decide (0 ≤ x19_7) = true := decide_eq_true c61
                                                    clear c61
                                                    by_cases c62 : 0 ≤ x18_7
                                                    · rw [if_pos c62] at H
                                                      have c62b0 : decide (0 ≤ x18_7) = true := decide_eq_true c62
                                                      clear c62
                                                      by_cases c63 : x18_7 < (x11_6.length : Int)
                                                      · rw [if_pos c63] at H
                                                        have c63b0 : decide (x18_7 < (x11_6.length : Int)) = true := decide_eq_true c63
                                                        clear c63
                                                        by_cases c64 : (rd x11_6 x19_7) > (rd x11_6 x18_7)
                                                        · rw [if_pos c64] at H
                                                          have c64b0 : decide ((rd x11_6 x18_7) < (rd x11_6 x19_7)) = true := decide_eq_true c64
                                                          clear c64
                                                          have H' := Aside0.mk H
                                                          clear H
                                                          obtain ⟨Ao65, co65, eo65⟩ := Kd.R_slice HO_11.out
                                                          subst eo65
                                                          try go_wp2
                                                          have n0_ := Aside0.mk (Kd.R_drew HO_10.out)
                                                          have n1_ := Aside0.mk (Kd.R_drew HO_11.out)
                                                          have n2_ := Aside0.mk (below_drew1 HB.out)
                                                          clear HO_10
                                                          clear HO_11
                                                          clear HB
                                                          have HO_10 := n0_
                                                          have HO_11 := n1_
                                                          have HB := n2_
                                                          clear n0_ n1_ n2_
                                                          have p183 : 0 ≤ (x19_7 : Int) := of_decide_eq_true (by first | (with_reducible assumption) | assumption)
                                                          have q183 : x19_7 < (x11_6.length : Int) := of_decide_eq_true (by first | (with_reducible assumption) | assumption)
                                                          obtain ⟨ad183, e183, hx183_0⟩ := Kd.at_int (Kd.R_reads' HO_11.out).2.2 x19_7 p183 q183
                                                          cases e183
                                                          replace p183 := eq_true p183
                                                          replace q183 := eq_true q183
                                                          have p184 : 0 ≤ (x18_7 : Int) := of_decide_eq_true (by first | (with_reducible assumption) | assumption)
                                                          have q184 : x18_7 < (x11_6.length : Int) := of_decide_eq_true (by first | (with_reducible assumption) | assumption)
                                                          obtain ⟨ad184, e184, hx184_0⟩ := Kd.at_int (Kd.R_reads' HO_11.out).2.2 x18_7 p184 q184
                                                          obtain rfl : ad183 = ad184 := (by injection e184)
                                                          replace p184 := eq_true p184
                                                          replace q184 := eq_true q184
                                                          refine start_ (n := 9) (S := fun w' => w'.cell? (ad183.add (x19_7).toNat) = some (.int .i64 (rd x11_6 x19_7)) ∧ w'.cell? (ad183.add (x18_7).toNat) = some (.int .i64 (rd x11_6 x18_7))) (ds := []) #[false, false, false, false, false, false, false, false, false] (by kernel_rfl) rfl rfl ⟨hx183_0, hx184_0⟩ (fun hHeld => ?_); refine with_tabW customsref02_Share.tab32 customsref02_Share.bits32 (fun HT_ HW_ => ?_)
                                                          generalize wr.drew = w66 at HO_10 HO_11 HB hx183_0 hx184_0 hHeld ⊢
                                                          refine pure_ (i := 0) (N := some 130) (v := ?_) (a' := ?_) #[true, false, false, false, false, false, false, false, false] rfl rfl (any_of HT_.out (by kernel_rfl)) (fun _ _ _ h => h) (Or.inl ⟨by rfl, ?_⟩) ?_ ?_
                                                          rotate_left
                                                          · intro w'
                                                            go_simp
                                                            with_reducible rfl
                                                          rotate_left
                                                          · simp only [Act.put, List.setIfInBounds_toArray, List.set_cons_zero, List.set_cons_succ, i64_w, i32_w]
                                                            rfl
                                                          refine pure_ (i := 1) (N := some 131) (v := ?_) (a' := ?_) #[true, true, false, false, false, false, false, false, false] rfl rfl (any_of HT_.out (by kernel_rfl)) (fun _ _ _ h => h) (Or.inl ⟨by rfl, ?_⟩) ?_ ?_
                                                          rotate_left
                                                          · intro w'
                                                            go_simp
                                                            with_reducible rfl
                                                          rotate_left
                                                          · simp only [Act.put, List.setIfInBounds_toArray, List.set_cons_zero, List.set_cons_succ, i64_w, i32_w]
                                                            rfl
                                                          refine pure_ (i := 2) (N := some 132) (v := ?_) (a' := ?_) #[true, true, true, false, false, false, false, false, false] rfl rfl (any_of HT_.out (by kernel_rfl)) (fun _ _ _ h => h) (Or.inl ⟨by rfl, ?_⟩) ?_ ?_
                                                          rotate_left
                                                          · intro w'
                                                            go_simp
                                                            with_reducible rfl
                                                          rotate_left
                                                          · simp only [Act.put, List.setIfInBounds_toArray, List.set_cons_zero, List.set_cons_succ, i64_w, i32_w]
                                                            rfl
                                                          refine pure_ (i := 4) (N := some 134) (v := ?_) (a' := ?_) #[true, true, true, false, true, false, false, false, false] rfl rfl (any_of HT_.out (by kernel_rfl)) (fun _ _ _ h => h) (Or.inl ⟨by rfl, ?_⟩) ?_ ?_
                                                          rotate_left
                                                          · intro w'
                                                            go_simp
                                                            with_reducible rfl
                                                          rotate_left
                                                          · simp only [Act.put, List.setIfInBounds_toArray, List.set_cons_zero, List.set_cons_succ, i64_w, i32_w]
                                                            rfl
                                                          refine pure_ (i := 5) (N := some 135) (v := ?_) (a' := ?_) #[true, true, true, false, true, true, false, false, false] rfl rfl (any_of HT_.out (by kernel_rfl)) (fun _ _ _ h => h) (Or.inl ⟨by rfl, ?_⟩) ?_ ?_
                                                          rotate_left
                                                          · intro w'
                                                            go_simp
                                                            with_reducible rfl
                                                          rotate_left
                                                          · simp only [Act.put, List.setIfInBounds_toArray, List.set_cons_zero, List.set_cons_succ, i64_w, i32_w]
                                                            rfl
                                                          refine pure_ (i := 6) (N := some 136) (v := ?_) (a' := ?_) #[true, true, true, false, true, true, true, false, false] rfl rfl (any_of HT_.out (by kernel_rfl)) (fun _ _ _ h => h) (Or.inl ⟨by rfl, ?_⟩) ?_ ?_
                                                          rotate_left
                                                          · intro w'
                                                            go_simp
                                                            with_reducible rfl
                                                          rotate_left
                                                          · simp only [Act.put, List.setIfInBounds_toArray, List.set_cons_zero, List.set_cons_succ, i64_w, i32_w]
                                                            rfl
                                                          refine take_ (i := 3) (N := some 133) (v := ?_) (a' := ?_) #[true, true, true, true, true, true, true, false, false] rfl rfl (take_ofW HT_.out HW_.out (by kernel_rfl)) (fun _ _ _ h => h) (Or.inl ⟨by rfl, ?_⟩) hHeld ?_ ?_
                                                          rotate_left
                                                          · rintro w' ⟨s0, s1⟩
                                                            go_simp
                                                            with_reducible rfl
                                                          rotate_left
                                                          · simp only [Act.put, List.setIfInBounds_toArray, List.set_cons_zero, List.set_cons_succ, i64_w, i32_w]
                                                            rfl
                                                          refine take_ (i := 7) (N := some 137) (v := ?_) (a' := ?_) #[true, true, true, true, true, true, true, true, false] rfl rfl (take_ofW HT_.out HW_.out (by kernel_rfl)) (fun _ _ _ h => h) (Or.inl ⟨by rfl, ?_⟩) hHeld ?_ ?_
                                                          rotate_left
                                                          · rintro w' ⟨s0, s1⟩
                                                            go_simp
                                                            with_reducible rfl
                                                          rotate_left
                                                          · simp only [Act.put, List.setIfInBounds_toArray, List.set_cons_zero, List.set_cons_succ, i64_w, i32_w]
                                                            rfl
                                                          refine pure_ (i := 8) (N := some 138) (v := ?_) (a' := ?_) #[true, true, true, true, true, true, true, true, true] rfl rfl (any_of HT_.out (by kernel_rfl)) (fun _ _ _ h => h) (Or.inl ⟨by rfl, ?_⟩) ?_ ?_
                                                          rotate_left
                                                          · intro w'
                                                            go_simp
                                                            with_reducible rfl
                                                          rotate_left
                                                          · simp only [Act.put, List.setIfInBounds_toArray, List.set_cons_zero, List.set_cons_succ, i64_w, i32_w]
                                                            rfl
                                                          refine done_ (done_of HT_.out (by kernel_rfl)) ?_
                                                          try go_wp2
                                                          go_roundg k7
                                                          case measure => have := HJ3.out; have := HK2.out; have := HJ10.out; have := HK4.out; have := HK5.out; have := HK6.out; have := HK7.out; omega
                                                          case rel => exact ⟨(x19_7), (wrap64 (x19_7 + 1)), (by first | rfl | (simp; done) | (simp [*]; done)), (by first | rfl | (simp; done) | (simp [*]; done)), H', ⟨by have := HJ3.out; have := HK2.out; have := HJ10.out; have := HK4.out; have := HK5.out; have := HK6.out; have := HK7.out; omega⟩, ⟨by (with_reducible repeat (first | apply Kd.R_alloc | apply Kd.R_drewN | apply Kd.R_drew)); exact HO_10.out⟩, ⟨by (with_reducible repeat (first | apply Kd.R_alloc | apply Kd.R_drewN | apply Kd.R_drew)); exact HO_11.out⟩, ⟨by repeat (first | (with_reducible first | exact HB.out | apply below_alloc | apply pw_below_drewN | apply below_drew1) | exact HB.out)⟩⟩
                                                        · rw [if_neg c64] at H
                                                          have c64b0 : decide ((rd x11_6 x18_7) < (rd x11_6 x19_7)) = false := decide_eq_false c64
                                                          clear c64
                                                          have H' := Aside0.mk H
                                                          clear H
                                                          obtain ⟨Ao67, co67, eo67⟩ := Kd.R_slice HO_11.out
                                                          subst eo67
                                                          try go_wp2
                                                          have n0_ := Aside0.mk (Kd.R_drew HO_10.out)
                                                          have n1_ := Aside0.mk (Kd.R_drew HO_11.out)
                                                          have n2_ := Aside0.mk (below_drew1 HB.out)
                                                          clear HO_10
                                                          clear HO_11
                                                          clear HB
                                                          have HO_10 := n0_
                                                          have HO_11 := n1_
                                                          have HB := n2_
                                                          clear n0_ n1_ n2_
                                                          have p183 : 0 ≤ (x19_7 : Int) := of_decide_eq_true (by first | (with_reducible assumption) | assumption)
                                                          have q183 : x19_7 < (x11_6.length : Int) := of_decide_eq_true (by first | (with_reducible assumption) | assumption)
                                                          obtain ⟨ad183, e183, hx183_0⟩ := Kd.at_int (Kd.R_reads' HO_11.out).2.2 x19_7 p183 q183
                                                          cases e183
                                                          replace p183 := eq_true p183
                                                          replace q183 := eq_true q183
                                                          have p184 : 0 ≤ (x18_7 : Int) := of_decide_eq_true (by first | (with_reducible assumption) | assumption)
                                                          have q184 : x18_7 < (x11_6.length : Int) := of_decide_eq_true (by first | (with_reducible assumption) | assumption)
                                                          obtain ⟨ad184, e184, hx184_0⟩ := Kd.at_int (Kd.R_reads' HO_11.out).2.2 x18_7 p184 q184
                                                          obtain rfl : ad183 = ad184 := (by injection e184)
                                                          replace p184 := eq_true p184
                                                          replace q184 := eq_true q184
                                                          refine start_ (n := 9) (S := fun w' => w'.cell? (ad183.add (x19_7).toNat) = some (.int .i64 (rd x11_6 x19_7)) ∧ w'.cell? (ad183.add (x18_7).toNat) = some (.int .i64 (rd x11_6 x18_7))) (ds := []) #[false, false, false, false, false, false, false, false, false] (by kernel_rfl) rfl rfl ⟨hx183_0, hx184_0⟩ (fun hHeld => ?_); refine with_tabW customsref02_Share.tab32 customsref02_Share.bits32 (fun HT_ HW_ => ?_)
                                                          generalize wr.drew = w68 at HO_10 HO_11 HB hx183_0 hx184_0 hHeld ⊢
                                                          refine pure_ (i := 0) (N := some 130) (v := ?_) (a' := ?_) #[true, false, false, false, false, false, false, false, false] rfl rfl (any_of HT_.out (by kernel_rfl)) (fun _ _ _ h => h) (Or.inl ⟨by rfl, ?_⟩) ?_ ?_
                                                          rotate_left
                                                          · intro w'
                                                            go_simp
                                                            with_reducible rfl
                                                          rotate_left
                                                          · simp only [Act.put, List.setIfInBounds_toArray, List.set_cons_zero, List.set_cons_succ, i64_w, i32_w]
                                                            rfl
                                                          refine pure_ (i := 1) (N := some 131) (v := ?_) (a' := ?_) #[true, true, false, false, false, false, false, false, false] rfl rfl (any_of HT_.out (by kernel_rfl)) (fun _ _ _ h => h) (Or.inl ⟨by rfl, ?_⟩) ?_ ?_
                                                          rotate_left
                                                          · intro w'
                                                            go_simp
                                                            with_reducible rfl
                                                          rotate_left
                                                          · simp only [Act.put, List.setIfInBounds_toArray, List.set_cons_zero, List.set_cons_succ, i64_w, i32_w]
                                                            rfl
                                                          refine pure_ (i := 2) (N := some 132) (v := ?_) (a' := ?_) #[true, true, true, false, false, false, false, false, false] rfl rfl (any_of HT_.out (by kernel_rfl)) (fun _ _ _ h => h) (Or.inl ⟨by rfl, ?_⟩) ?_ ?_
                                                          rotate_left
                                                          · intro w'
                                                            go_simp
                                                            with_reducible rfl
                                                          rotate_left
                                                          · simp only [Act.put, List.setIfInBounds_toArray, List.set_cons_zero, List.set_cons_succ, i64_w, i32_w]
                                                            rfl
                                                          refine pure_ (i := 4) (N := some 134) (v := ?_) (a' := ?_) #[true, true, true, false, true, false, false, false, false] rfl rfl (any_of HT_.out (by kernel_rfl)) (fun _ _ _ h => h) (Or.inl ⟨by rfl, ?_⟩) ?_ ?_
                                                          rotate_left
                                                          · intro w'
                                                            go_simp
                                                            with_reducible rfl
                                                          rotate_left
                                                          · simp only [Act.put, List.setIfInBounds_toArray, List.set_cons_zero, List.set_cons_succ, i64_w, i32_w]
                                                            rfl
                                                          refine pure_ (i := 5) (N := some 135) (v := ?_) (a' := ?_) #[true, true, true, false, true, true, false, false, false] rfl rfl (any_of HT_.out (by kernel_rfl)) (fun _ _ _ h => h) (Or.inl ⟨by rfl, ?_⟩) ?_ ?_
                                                          rotate_left
                                                          · intro w'
                                                            go_simp
                                                            with_reducible rfl
                                                          rotate_left
                                                          · simp only [Act.put, List.setIfInBounds_toArray, List.set_cons_zero, List.set_cons_succ, i64_w, i32_w]
                                                            rfl
                                                          refine pure_ (i := 6) (N := some 136) (v := ?_) (a' := ?_) #[true, true, true, false, true, true, true, false, false] rfl rfl (any_of HT_.out (by kernel_rfl)) (fun _ _ _ h => h) (Or.inl ⟨by rfl, ?_⟩) ?_ ?_
                                                          rotate_left
                                                          · intro w'
                                                            go_simp
                                                            with_reducible rfl
                                                          rotate_left
                                                          · simp only [Act.put, List.setIfInBounds_toArray, List.set_cons_zero, List.set_cons_succ, i64_w, i32_w]
                                                            rfl
                                                          refine take_ (i := 3) (N := some 133) (v := ?_) (a' := ?_) #[true, true, true, true, true, true, true, false, false] rfl rfl (take_ofW HT_.out HW_.out (by kernel_rfl)) (fun _ _ _ h => h) (Or.inl ⟨by rfl, ?_⟩) hHeld ?_ ?_
                                                          rotate_left
                                                          · rintro w' ⟨s0, s1⟩
                                                            go_simp
                                                            with_reducible rfl
                                                          rotate_left
                                                          · simp only [Act.put, List.setIfInBounds_toArray, List.set_cons_zero, List.set_cons_succ, i64_w, i32_w]
                                                            rfl
                                                          refine take_ (i := 7) (N := some 137) (v := ?_) (a' := ?_) #[true, true, true, true, true, true, true, true, false] rfl rfl (take_ofW HT_.out HW_.out (by kernel_rfl)) (fun _ _ _ h => h) (Or.inl ⟨by rfl, ?_⟩) hHeld ?_ ?_
                                                          rotate_left
                                                          · rintro w' ⟨s0, s1⟩
                                                            go_simp
                                                            with_reducible rfl
                                                          rotate_left
                                                          · simp only [Act.put, List.setIfInBounds_toArray, List.set_cons_zero, List.set_cons_succ, i64_w, i32_w]
                                                            rfl
                                                          refine pure_ (i := 8) (N := some 138) (v := ?_) (a' := ?_) #[true, true, true, true, true, true, true, true, true] rfl rfl (any_of HT_.out (by kernel_rfl)) (fun _ _ _ h => h) (Or.inl ⟨by rfl, ?_⟩) ?_ ?_
                                                          rotate_left
                                                          · intro w'
                                                            go_simp
                                                            with_reducible rfl
                                                          rotate_left
                                                          · simp only [Act.put, List.setIfInBounds_toArray, List.set_cons_zero, List.set_cons_succ, i64_w, i32_w]
                                                            rfl
                                                          refine done_ (done_of HT_.out (by kernel_rfl)) ?_
                                                          try go_wp2
                                                          go_roundg k7
                                                          case measure => have := HJ3.out; have := HK2.out; have := HJ10.out; have := HK4.out; have := HK5.out; have := HK6.out; have := HK7.out; omega
                                                          case rel => exact ⟨(x18_7), (wrap64 (x19_7 + 1)), (by first | rfl | (simp; done) | (simp [*]; done)), (by first | rfl | (simp; done) | (simp [*]; done)), H', ⟨by have := HJ3.out; have := HK2.out; have := HJ10.out; have := HK4.out; have := HK5.out; have := HK6.out; have := HK7.out; omega⟩, ⟨by (with_reducible repeat (first | apply Kd.R_alloc | apply Kd.R_drewN | apply Kd.R_drew)); exact HO_10.out⟩, ⟨by (with_reducible repeat (first | apply Kd.R_alloc | apply Kd.R_drewN | apply Kd.R_drew)); exact HO_11.out⟩, ⟨by repeat (first | (with_reducible first | exact HB.out | apply below_alloc | apply pw_below_drewN | apply below_drew1) | exact HB.out)⟩⟩
                                                      · rw [if_neg c63] at H
                                                        exact absurd H (by simp)
                                                    · rw [if_neg c62] at H
                                                      exact absurd H (by simp)
                                                  · rw [if_neg c61] at H
                                                    exact absurd H (by simp)
                                                · rw [if_neg c60] at H
                                                  have c60b0 : decide (x19_7 < (x11_6.length : Int)) = false := decide_eq_false c60
                                                  clear c60
                                                  by_cases c69 : 0 ≤ x18_7
                                                  · rw [if_pos c69] at H
                                                    have c69b0 : decide (0 ≤ x18_7) = true := decide_eq_true c69
                                                    clear c69
                                                    by_cases c70 : x18_7 < (x10_6.length : Int)
                                                    · rw [if_pos c70] at H
                                                      have c70b0 : decide (x18_7 < (x10_6.length : Int)) = true := decide_eq_true c70
                                                      clear c70
                                                      obtain ⟨y186, hy186⟩ : ∃ y_ : List Int, y_ = (x10_6.set (x18_7 : Int).toNat (wrap64 ((rd x10_6 x18_7) + 1))) := ⟨_, rfl⟩
                                                      replace H : (if x18_7 < (x11_6.length : Int) then (customsref02_Share.l3 k7 y186 (x11_6.set (x18_7 : Int).toNat (-1)) (wrap64 (x12_6 - 1))) else (none)) = some (r1, r2) := by first | (rw [hy186]; with_reducible exact H) | (have H2_ := (Option.bind_some _ _).symm.trans H; rw [hy186]; with_reducible exact H2_) | (have H2_ := (Option.bind_some _ _).symm.trans H; with_reducible exact H2_) | with_reducible exact H | (rw [hy186]; exact H) | exact H
                                                      have Ny186 := Aside0.mk hy186
                                                      clear hy186
                                                      by_cases c72 : x18_7 < (x11_6.length : Int)
                                                      · rw [if_pos c72] at H
                                                        have c72b0 : decide (x18_7 < (x11_6.length : Int)) = true := decide_eq_true c72
                                                        clear c72
                                                        obtain ⟨y187, hy187⟩ : ∃ y_ : List Int, y_ = (x11_6.set (x18_7 : Int).toNat (-1)) := ⟨_, rfl⟩
                                                        replace H : (customsref02_Share.l3 k7 y186 y187 (wrap64 (x12_6 - 1))) = some (r1, r2) := by first | (rw [hy187]; with_reducible exact H) | (have H2_ := (Option.bind_some _ _).symm.trans H; rw [hy187]; with_reducible exact H2_) | (have H2_ := (Option.bind_some _ _).symm.trans H; with_reducible exact H2_) | with_reducible exact H | (rw [hy187]; exact H) | exact H
                                                        have Ny187 := Aside0.mk hy187
                                                        clear hy187
                                                        have H' := Aside0.mk H
                                                        clear H
                                                        obtain ⟨Ao74, co74, eo74⟩ := Kd.R_slice HO_11.out
                                                        subst eo74
                                                        obtain ⟨Ao75, co75, eo75⟩ := Kd.R_slice HO_10.out
                                                        subst eo75
                                                        have p185 : 0 ≤ (x18_7 : Int) := of_decide_eq_true (by first | (with_reducible assumption) | assumption)
                                                        have q185 : x18_7 < (x10_6.length : Int) := of_decide_eq_true (by first | (with_reducible assumption) | assumption)
                                                        obtain ⟨ad185, e185, hx185_0⟩ := Kd.at_int (Kd.R_reads' HO_10.out).2.2 x18_7 p185 q185
                                                        cases e185
                                                        replace p185 := eq_true p185
                                                        replace q185 := eq_true q185
                                                        have p71 : 0 ≤ (x18_7 : Int) := of_decide_eq_true (by first | (with_reducible assumption) | assumption)
                                                        have q71 : (x18_7 : Int) < ((x10_6.length : Int) : Int) := of_decide_eq_true (by first | (with_reducible assumption) | assumption)
                                                        obtain ⟨go71, co71, eo71, gb71, gl71, cl71, HG71⟩ := Kd.R_form HO_10.out (by omega)
                                                        (first | cases eo71 | (injection eo71 with ea_ en_ ec_; (first | subst ea_ | (injection ea_ with ea_; subst ea_)); subst ec_; clear en_))
                                                        have GB71 := Aside0.mk gb71
                                                        have GG71 := Aside0.mk HG71
                                                        clear gb71 gl71 HG71
                                                        (first | simp only [add_plain] at hx185_0 | skip)
                                                        obtain ⟨hx71_0, hf71_0⟩ := Kd.R_celln 0 HO_10.out (x18_7 : Int) p71 q71
                                                        replace p71 := eq_true p71
                                                        replace q71 := eq_true q71
                                                        have HP76 := Kd.R_putg HO_10.out (x18_7 : Int) (wrap64 ((rd x10_6 x18_7) + 1))
                                                        go_wp2_with (first | ((with_reducible refine gate_store (t := 3) (p := 145) rfl ?_); refine store_event (t := 3) (p := 145) (v := ?vo_w77) (w1 := (wr.setCell ⟨go71, (x18_7 : Int).toNat, none⟩ (.int .i64 (wrap64 ((rd x10_6 x18_7) + 1))))) ?hg ?ho ?hn ?hr ?_; (case ho => rfl); (case hg => rfl); (case hn => rfl); (case hr => first | (go_simp; done) | (go_simp; rfl)); intro w77 hw; have hg : wr.grownBy w77 (some go71) := (by rw [hw]; exact HP76.2); have hp_ : Kd.R (Kd.int .i64) 3 w77 w.heap.size (fun k_ => some k_ ≠ (.slice Ao74 x11_6.length co74 : Value).ownBlock) (.slice (some ⟨go71, 0, none⟩) x10_6.length co75) y186 := (by rw [hw, Ny186.out]; exact HP76.1); clear HP76; have n0_ := Aside0.mk (hp_); have n1_ := Aside0.mk (Kd.R_after (v := (.slice (some ⟨go71, 0, none⟩) x10_6.length co75)) (v1 := (.slice (some ⟨go71, 0, none⟩) x10_6.length co75)) (ok := (fun _ => True)) (by (with_reducible repeat (first | apply Kd.R_alloc | apply Kd.R_drewN | apply Kd.R_drew)); exact Kd.R_mono HO_11.out (fun _ hk => ⟨trivial, hk⟩)) hg (.inl rfl)); have n2_ := Aside0.mk ((by rw [hw]; exact below_set (HB.out) GB71.out : Below w.heap.size w w77)); clear HO_10; clear HO_11; clear HB; have HO_10 := n0_; have HO_11 := n1_; have HB := n2_; clear n0_ n1_ n2_; clear hg hw hp_; have p73 : 0 ≤ (x18_7 : Int) := of_decide_eq_true (by first | (with_reducible assumption) | assumption); have q73 : (x18_7 : Int) < ((x11_6.length : Int) : Int) := of_decide_eq_true (by first | (with_reducible assumption) | assumption); obtain ⟨go73, co73, eo73, gb73, gl73, cl73, HG73⟩ := Kd.R_form HO_11.out (by omega); (first | cases eo73 | (injection eo73 with ea_ en_ ec_; (first | subst ea_ | (injection ea_ with ea_; subst ea_)); subst ec_; clear en_)); have GB73 := Aside0.mk gb73; have GG73 := Aside0.mk HG73; clear gb73 gl73 HG73; obtain ⟨hx73_0, hf73_0⟩ := Kd.R_celln 0 HO_11.out (x18_7 : Int) p73 q73; replace p73 := eq_true p73; replace q73 := eq_true q73; have n_ := Aside0.mk (Kd.R_mono (ok' := (fun k_ => some k_ ≠ (.slice (some ⟨go71, 0, none⟩) x10_6.length co75 : Value).ownBlock)) HO_11.out (fun k_ hk => hk.2)); clear HO_11; have HO_11 := n_; clear n_; obtain ⟨hy78_, hz78_⟩ := Kd.R_celln 0 HO_11.out (x18_7 : Int) (of_decide_eq_true (by first | (with_reducible assumption) | assumption)) (of_decide_eq_true (by first | (with_reducible assumption) | assumption)); have HP78 := Kd.R_putg HO_11.out (x18_7 : Int) (-1)) | ((with_reducible refine gate_store (t := 3) (p := 148) rfl ?_); refine store_event (t := 3) (p := 148) (v := ?vo_w79) (w1 := (w77.setCell ⟨go73, (x18_7 : Int).toNat, none⟩ (.int .i64 (-1)))) ?hg ?ho ?hn ?hr ?_; (case ho => rfl); (case hg => rfl); (case hn => rfl); (case hr => first | (go_simp; done) | (go_simp; rfl)); intro w79 hw; have hg : w77.grownBy w79 (some go73) := (by rw [hw]; exact HP78.2); have hp_ : Kd.R (Kd.int .i64) 3 w79 w.heap.size (fun k_ => some k_ ≠ (.slice (some ⟨go71, 0, none⟩) x10_6.length co75 : Value).ownBlock) (.slice (some ⟨go73, 0, none⟩) x11_6.length co74) y187 := (by rw [hw, Ny187.out]; exact HP78.1); clear HP78; have n0_ := Aside0.mk (Kd.R_after (v := (.slice (some ⟨go73, 0, none⟩) x11_6.length co74)) (v1 := (.slice (some ⟨go73, 0, none⟩) x11_6.length co74)) (ok := (fun _ => True)) (by (with_reducible repeat (first | apply Kd.R_alloc | apply Kd.R_drewN | apply Kd.R_drew)); exact Kd.R_mono HO_10.out (fun _ hk => ⟨trivial, hk⟩)) hg (.inl rfl)); have n1_ := Aside0.mk (hp_); have n2_ := Aside0.mk ((by rw [hw]; exact below_set (HB.out) GB73.out : Below w.heap.size w w79)); clear HO_10; clear HO_11; clear HB; have HO_10 := n0_; have HO_11 := n1_; have HB := n2_; clear n0_ n1_ n2_; clear hg hw hp_))
                                                        go_roundg k7
                                                        case measure => have := HJ3.out; have := HK2.out; have := HJ10.out; have := HK4.out; have := HK5.out; have := HK6.out; have := HK7.out; omega
                                                        case rel => exact ⟨(y186), (y187), (wrap64 (x12_6 - 1)), (by first | rfl | (simp; done) | (simp [*]; done)), H', ⟨by have := HJ3.out; have := HK2.out; have := HJ10.out; have := HK4.out; have := HK5.out; have := HK6.out; have := HK7.out; omega⟩, ⟨by (with_reducible repeat (first | apply Kd.R_alloc | apply Kd.R_drewN | apply Kd.R_drew)); exact Kd.R_mono HO_10.out (fun _ hk => hk.2)⟩, ⟨by (with_reducible repeat (first | apply Kd.R_alloc | apply Kd.R_drewN | apply Kd.R_drew)); exact HO_11.out⟩, ⟨by repeat (first | (with_reducible first | exact HB.out | apply below_alloc | apply pw_below_drewN | apply below_drew1) | exact HB.out)⟩⟩
                                                      · rw [if_neg c72] at H
                                                        exact absurd H (by simp)
                                                    · rw [if_neg c70] at H
                                                      exact absurd H (by simp)
                                                  · rw [if_neg c69] at H
                                                    exact absurd H (by simp)
                                          · rw [if_neg c59] at H
                                            have c59b0 : decide (0 < x12_6) = false := decide_eq_false c59
                                            clear c59
                                            simp only [Option.some.injEq, Prod.mk.injEq] at H
                                            obtain ⟨rfl, rfl⟩ := H
                                            go_wp2
                                            go_ret2
                                            exact ⟨_, by first | rfl | (simp [errW_none, errW_some] <;> rfl) | (simp [*, errW_none, errW_some] <;> rfl) | (simp (disch := first | assumption | omega) only [Int.tdiv_eq_ediv_of_nonneg, Int.tmod_eq_emod_of_nonneg]; rfl), by (with_reducible repeat (first | apply Kd.R_alloc | apply Kd.R_drewN | apply Kd.R_drew)); exact Kd.R_mono HO_10.out (fun _ hk => trivial), by repeat (first | (with_reducible first | exact HB.out | apply below_alloc | apply pw_below_drewN | apply below_drew1) | exact HB.out)⟩
                              · rw [if_neg c17] at H
                                exact absurd H (by simp)
                            · rw [if_neg c16] at H
                              exact absurd H (by simp)

end Go.Proofs.Ytidonenkdibaoaa.PX
end
section
namespace Go.Proofs.Ytidonenkdibaoaa.PX
open Go.RowKit Go.Proofs.YtidonenkdibaoaaW.PrintWords Go.Proofs.YtidonenkdibaoaaW.PrintLast Go.Proofs.YtidonenkdibaoaaW.PrintMore
attribute [local go_sem] max2_int min2_int max_two min_two max_three min_three max_four min_four   -- for this text's walks alone
set_option linter.unusedVariables false
set_option linter.unusedSimpArgs false

/-! ### customsref02_Spread: function 19 -/
mutual
def customsref02_Spread.j0 : Nat → Int → List Int → Bool → Option (List Int × Int)
  | 0, _, _, _ => none
  | k + 1, x0, x1, x14 => if x14 = true then (if x0 < 0 then ((customsref02_Share.f k 1000000000001 x1).bind fun bt418 => (some (bt418.1, bt418.2))) else ((customsref02_Share.f k x0 x1).bind fun bt422 => (some (bt422.1, bt422.2)))) else ((customsref02_Share.f k (wrap64 (-x0)) x1).bind fun bt426 => (customsref02_Spread.l0 k bt426.1 bt426.2 0))
def customsref02_Spread.l0 : Nat → List Int → Int → Int → Option (List Int × Int)
  | 0, _, _, _ => none
  | k + 1, x6, x7, x8 => if x8 < (x6.length : Int) then (if 0 ≤ x8 then (customsref02_Spread.l0 k (x6.set (x8 : Int).toNat (wrap64 (-(rd x6 x8)))) x7 (wrap64 (x8 + 1))) else (none)) else (some (x6, x7))
end
def customsref02_Spread.f (k : Nat) (a0 : Int) (l1 : List Int) : Option (List Int × Int) := if a0 ≥ 0 then (customsref02_Spread.j0 k a0 l1 true) else (customsref02_Spread.j0 k a0 l1 (decide (a0 < (-1000000000000))))
set_option maxHeartbeats 8000000 in
set_option maxRecDepth 100000 in
theorem customsref02_Spread.calls (k : Nat) (a0 : Int) (A1 : Option Addr) (c1 : Nat) (l1 : List Int) (r1 : List Int) (r2 : Int) (w : World) (hr1 : Kd.C (Kd.int .i64) w A1 l1.length l1) (hc1 : l1.length ≤ c1) (h : customsref02_Spread.f k a0 l1 = some (r1, r2)) :
    Calls Try.prog 19 #[.int .i64 a0, .slice A1 l1.length c1] w fun e w' => ∃ v0_ : Value, e = .returned (.tuple #[v0_, .int .i64 r2]) ∧ Kd.R (Kd.int .i64) 3 w' w.heap.size (fun _ => True) v0_ r1 ∧ Below w.heap.size w w' := by
  have HR1 := Aside0.mk hr1
  have HC1 := Aside0.mk hc1
  clear hr1 hc1
  have HB := Aside0.mk (Below.refl w.heap.size w)
  have H : (if a0 ≥ 0 then (customsref02_Spread.j0 k a0 l1 true) else (customsref02_Spread.j0 k a0 l1 (decide (a0 < (-1000000000000))))) = some (r1, r2) := h
  clear h
  have HC3 := Aside0.mk H
  clear H
  go_enter Try.func19, Try.ntmps19
  go_upto_region 1 with (fail)
  go_cut [14] (fun v14 wc => ∃ (kq : Nat) (x14_2 : Bool), v14 = .bool x14_2 ∧ Aside0 (customsref02_Spread.j0 kq a0 l1 x14_2 = some (r1, r2)) ∧ Aside0 (kq ≤ k) ∧ Aside0 (Below w.heap.size w wc))
  case first =>
    have H := HC3.out
    clear HC3
    by_cases c4 : a0 ≥ 0
    · rw [if_pos c4] at H
      have c4b0 : decide (0 ≤ a0) = true := decide_eq_true c4
      clear c4
      (first | rw [c4b0] | (simp only [i64_w, i32_w]; rw [c4b0]) | skip)
      have H' := Aside0.mk H
      clear H
      go_wp2
      go_meet
      case rel => exact ⟨_, (true), (by first | rfl | (simp; done) | (simp [*]; done)), H', ⟨by first | omega | exact Nat.le_refl _⟩, ⟨by repeat (first | (with_reducible first | exact HB.out | apply below_alloc | apply pw_below_drewN | apply below_drew1) | exact HB.out)⟩⟩
    · rw [if_neg c4] at H
      have c4b0 : decide (0 ≤ a0) = false := decide_eq_false c4
      clear c4
      (first | rw [c4b0] | (simp only [i64_w, i32_w]; rw [c4b0]) | skip)
      have H' := Aside0.mk H
      clear H
      go_wp2
      go_meet
      case rel => exact ⟨_, (decide (a0 < (-1000000000000))), (by first | rfl | (simp; done) | (simp [*]; done)), H', ⟨by first | omega | exact Nat.le_refl _⟩, ⟨by repeat (first | (with_reducible first | exact HB.out | apply below_alloc | apply pw_below_drewN | apply below_drew1) | exact HB.out)⟩⟩
  case rest =>
    clear HC3
    try clear c1
    try clear p2
    try clear c4
    try clear c4b0
    obtain ⟨kq, x14_2, rfl, HA, HJ2, HB⟩ := hcut
    cases kq with
    | zero => exact absurd HA.out (by simp [customsref02_Spread.j0])
    | succ kj2 =>
      have H := HA.out
      clear HA
      simp only [customsref02_Spread.j0] at H
      by_cases c5 : x14_2 = true
      · subst c5
        have H1 : (if a0 < 0 then ((customsref02_Share.f kj2 1000000000001 l1).bind fun bt418 => (some (bt418.1, bt418.2))) else ((customsref02_Share.f kj2 a0 l1).bind fun bt422 => (some (bt422.1, bt422.2)))) = some (r1, r2) := by rw [if_pos rfl] at H; exact H
        clear H
        have H := H1
        clear H1
        by_cases c6 : a0 < 0
        · rw [if_pos c6] at H
          have c6b0 : decide (a0 < 0) = true := decide_eq_true c6
          clear c6
          replace H := Option.bind_eq_some_iff.mp H
          obtain ⟨⟨t418, t419⟩, A70, H⟩ := H
          replace H : (some (t418, t419)) = some (r1, r2) := H
          have A7 := Aside0.mk A70
          clear A70
          simp only [Option.some.injEq, Prod.mk.injEq] at H
          obtain ⟨rfl, rfl⟩ := H
          go_wp2_with (first | ((with_reducible refine gate_callee (f := 13) rfl ?_); refine goesL_ (some 19) rfl rfl Try.func13 (by kernel_rfl) rfl #[.int .i64 1000000000001, .slice A1 l1.length c1] rfl (by (try simp only [List.map_toArray, List.map_cons, List.map_nil]); first | done | rfl | (simp only [List.length_drop, List.length_take]; rfl)) ?_; (with_reducible refine (customsref02_Share.calls kj2 1000000000001 _ _ l1 t418 t419 _ ?side1 ?side2 A7.out).mono ?_); (case side1 => repeat (first | exact (Kd.C_below HR1.out HB.out) | (with_reducible refine Kd.C_alloc ?_ _) | (with_reducible refine Kd.C_drewN ?_ _) | (with_reducible refine Kd.C_drew ?_))); (case side2 => exact HC1.out); rintro e w8 ⟨v420, rfl, ho0, hb⟩; refine ⟨_, rfl, ?_⟩; have n0_ := Aside0.mk (Kd.R_lower ho0 (below_size (by repeat (first | (with_reducible first | exact HB.out | apply below_alloc | apply pw_below_drewN | apply below_drew1) | exact HB.out)))); have n1_ := Aside0.mk (below_step (by repeat (first | (with_reducible first | exact HB.out | apply below_alloc | apply pw_below_drewN | apply below_drew1) | exact HB.out)) hb); clear HB; have HO421 := n0_; have HB := n1_; clear n0_ n1_; (try clear hb); (try clear hb2); (try clear hk); (try clear hi); (try clear ho0)))
          go_ret2
          exact ⟨_, by first | rfl | (simp [errW_none, errW_some] <;> rfl) | (simp [*, errW_none, errW_some] <;> rfl) | (simp (disch := first | assumption | omega) only [Int.tdiv_eq_ediv_of_nonneg, Int.tmod_eq_emod_of_nonneg]; rfl), by (with_reducible repeat (first | apply Kd.R_alloc | apply Kd.R_drewN | apply Kd.R_drew)); exact HO421.out, by repeat (first | (with_reducible first | exact HB.out | apply below_alloc | apply pw_below_drewN | apply below_drew1) | exact HB.out)⟩
        · rw [if_neg c6] at H
          have c6b0 : decide (a0 < 0) = false := decide_eq_false c6
          clear c6
          replace H := Option.bind_eq_some_iff.mp H
          obtain ⟨⟨t422, t423⟩, A90, H⟩ := H
          replace H : (some (t422, t423)) = some (r1, r2) := H
          have A9 := Aside0.mk A90
          clear A90
          simp only [Option.some.injEq, Prod.mk.injEq] at H
          obtain ⟨rfl, rfl⟩ := H
          go_wp2_with (first | ((with_reducible refine gate_callee (f := 13) rfl ?_); refine goesL_ (some 19) rfl rfl Try.func13 (by kernel_rfl) rfl #[.int .i64 a0, .slice A1 l1.length c1] rfl (by (try simp only [List.map_toArray, List.map_cons, List.map_nil]); first | done | rfl | (simp only [List.length_drop, List.length_take]; rfl)) ?_; (with_reducible refine (customsref02_Share.calls kj2 a0 _ _ l1 t422 t423 _ ?side1 ?side2 A9.out).mono ?_); (case side1 => repeat (first | exact (Kd.C_below HR1.out HB.out) | (with_reducible refine Kd.C_alloc ?_ _) | (with_reducible refine Kd.C_drewN ?_ _) | (with_reducible refine Kd.C_drew ?_))); (case side2 => exact HC1.out); rintro e w10 ⟨v424, rfl, ho0, hb⟩; refine ⟨_, rfl, ?_⟩; have n0_ := Aside0.mk (Kd.R_lower ho0 (below_size (by repeat (first | (with_reducible first | exact HB.out | apply below_alloc | apply pw_below_drewN | apply below_drew1) | exact HB.out)))); have n1_ := Aside0.mk (below_step (by repeat (first | (with_reducible first | exact HB.out | apply below_alloc | apply pw_below_drewN | apply below_drew1) | exact HB.out)) hb); clear HB; have HO425 := n0_; have HB := n1_; clear n0_ n1_; (try clear hb); (try clear hb2); (try clear hk); (try clear hi); (try clear ho0)))
          go_ret2
          exact ⟨_, by first | rfl | (simp [errW_none, errW_some] <;> rfl) | (simp [*, errW_none, errW_some] <;> rfl) | (simp (disch := first | assumption | omega) only [Int.tdiv_eq_ediv_of_nonneg, Int.tmod_eq_emod_of_nonneg]; rfl), by (with_reducible repeat (first | apply Kd.R_alloc | apply Kd.R_drewN | apply Kd.R_drew)); exact HO425.out, by repeat (first | (with_reducible first | exact HB.out | apply below_alloc | apply pw_below_drewN | apply below_drew1) | exact HB.out)⟩
      · replace c5 := Bool.eq_false_iff.mpr c5
        subst c5
        have H1 : ((customsref02_Share.f kj2 (wrap64 (-a0)) l1).bind fun bt426 => (customsref02_Spread.l0 kj2 bt426.1 bt426.2 0)) = some (r1, r2) := by rw [if_neg (show ¬ (false = true) by decide)] at H; exact H
        clear H
        have H := H1
        clear H1
        replace H := Option.bind_eq_some_iff.mp H
        obtain ⟨⟨t426, t427⟩, A110, H⟩ := H
        replace H : (customsref02_Spread.l0 kj2 t426 t427 0) = some (r1, r2) := H
        have A11 := Aside0.mk A110
        clear A110
        have H' := Aside0.mk H
        clear H
        go_wp2_with (first | ((with_reducible refine gate_callee (f := 13) rfl ?_); refine goesL_ (some 26) rfl rfl Try.func13 (by kernel_rfl) rfl #[.int .i64 (wrap64 (-a0)), .slice A1 l1.length c1] rfl (by (try simp only [List.map_toArray, List.map_cons, List.map_nil]); first | done | rfl | (simp only [List.length_drop, List.length_take]; rfl)) ?_; (with_reducible refine (customsref02_Share.calls kj2 (wrap64 (-a0)) _ _ l1 t426 t427 _ ?side1 ?side2 A11.out).mono ?_); (case side1 => repeat (first | exact (Kd.C_below HR1.out HB.out) | (with_reducible refine Kd.C_alloc ?_ _) | (with_reducible refine Kd.C_drewN ?_ _) | (with_reducible refine Kd.C_drew ?_))); (case side2 => exact HC1.out); rintro e w12 ⟨v428, rfl, ho0, hb⟩; refine ⟨_, rfl, ?_⟩; have n0_ := Aside0.mk (Kd.R_lower ho0 (below_size (by repeat (first | (with_reducible first | exact HB.out | apply below_alloc | apply pw_below_drewN | apply below_drew1) | exact HB.out)))); have n1_ := Aside0.mk (below_step (by repeat (first | (with_reducible first | exact HB.out | apply below_alloc | apply pw_below_drewN | apply below_drew1) | exact HB.out)) hb); clear HB; have HO429 := n0_; have HB := n1_; clear n0_ n1_; (try clear hb); (try clear hb2); (try clear hk); (try clear hi); (try clear ho0)))
        go_loopg [8] kj2 (fun kq v8 w' => ∃ (x6_2 : List Int) (x8_2 : Int), v8 = .int .i64 x8_2 ∧ Aside0 (customsref02_Spread.l0 kq x6_2 t427 x8_2 = some (r1, r2)) ∧ Aside0 (kq ≤ kj2) ∧ Aside0 (Kd.R (Kd.int .i64) 3 w' w.heap.size (fun _ => True) v428 x6_2) ∧ Aside0 (Below w.heap.size w w'))
        case atStart => exact ⟨(t426), (0), (by first | rfl | (simp; done) | (simp [*]; done)), H', ⟨Nat.le_refl _⟩, ⟨by (with_reducible repeat (first | apply Kd.R_alloc | apply Kd.R_drewN | apply Kd.R_drew)); exact HO429.out⟩, ⟨by repeat (first | (with_reducible first | exact HB.out | apply below_alloc | apply pw_below_drewN | apply below_drew1) | exact HB.out)⟩⟩
        case round =>
          clear H'
          try clear c1
          try clear p2
          try clear c4
          try clear c4b0
          try clear c5
          try clear c6
          try clear c6b0
          try clear p6
          try clear p2
          obtain ⟨x6_2, x8_2, rfl, HA, HK2, HO_6, HB⟩ := hrel
          cases gk with
          | zero => exact absurd HA.out (by simp [customsref02_Spread.l0])
          | succ k2 =>
            have H := HA.out
            clear HA
            simp only [customsref02_Spread.l0] at H
            by_cases c13 : x8_2 < (x6_2.length : Int)
            · rw [if_pos c13] at H
              have c13b0 : decide (x8_2 < (x6_2.length : Int)) = true := decide_eq_true c13
              clear c13
              by_cases c14 : 0 ≤ x8_2
              · rw [if_pos c14] at H
                have c14b0 : decide (0 ≤ x8_2) = true := decide_eq_true c14
                clear c14
                obtain ⟨y431, hy431⟩ : ∃ y_ : List Int, y_ = (x6_2.set (x8_2 : Int).toNat (wrap64 (-(rd x6_2 x8_2)))) := ⟨_, rfl⟩
                replace H : (customsref02_Spread.l0 k2 y431 t427 (wrap64 (x8_2 + 1))) = some (r1, r2) := by first | (rw [hy431]; with_reducible exact H) | (have H2_ := (Option.bind_some _ _).symm.trans H; rw [hy431]; with_reducible exact H2_) | (have H2_ := (Option.bind_some _ _).symm.trans H; with_reducible exact H2_) | with_reducible exact H | (rw [hy431]; exact H) | exact H
                have Ny431 := Aside0.mk hy431
                clear hy431
                have H' := Aside0.mk H
                clear H
                obtain ⟨Ao16, co16, eo16⟩ := Kd.R_slice HO_6.out
                subst eo16
                have p430 : 0 ≤ (x8_2 : Int) := of_decide_eq_true (by first | (with_reducible assumption) | assumption)
                have q430 : x8_2 < (x6_2.length : Int) := of_decide_eq_true (by first | (with_reducible assumption) | assumption)
                obtain ⟨ad430, e430, hx430_0⟩ := Kd.at_int (Kd.R_reads' HO_6.out).2.2 x8_2 p430 q430
                cases e430
                replace p430 := eq_true p430
                replace q430 := eq_true q430
                have p15 : 0 ≤ (x8_2 : Int) := of_decide_eq_true (by first | (with_reducible assumption) | assumption)
                have q15 : (x8_2 : Int) < ((x6_2.length : Int) : Int) := of_decide_eq_true (by first | (with_reducible assumption) | assumption)
                obtain ⟨go15, co15, eo15, gb15, gl15, cl15, HG15⟩ := Kd.R_form HO_6.out (by omega)
                (first | cases eo15 | (injection eo15 with ea_ en_ ec_; (first | subst ea_ | (injection ea_ with ea_; subst ea_)); subst ec_; clear en_))
                have GB15 := Aside0.mk gb15
                have GG15 := Aside0.mk HG15
                clear gb15 gl15 HG15
                (first | simp only [add_plain] at hx430_0 | skip)
                obtain ⟨hx15_0, hf15_0⟩ := Kd.R_celln 0 HO_6.out (x8_2 : Int) p15 q15
                replace p15 := eq_true p15
                replace q15 := eq_true q15
                have HP17 := Kd.R_putg HO_6.out (x8_2 : Int) (wrap64 (-(rd x6_2 x8_2)))
                go_wp2_with (first | ((with_reducible refine gate_store (t := 3) (p := 42) rfl ?_); refine store_event (t := 3) (p := 42) (v := ?vo_w18) (w1 := (wr.setCell ⟨go15, (x8_2 : Int).toNat, none⟩ (.int .i64 (wrap64 (-(rd x6_2 x8_2)))))) ?hg ?ho ?hn ?hr ?_; (case ho => rfl); (case hg => rfl); (case hn => rfl); (case hr => first | (go_simp; done) | (go_simp; rfl)); intro w18 hw; have hg : wr.grownBy w18 (some go15) := (by rw [hw]; exact HP17.2); have hp_ : Kd.R (Kd.int .i64) 3 w18 w.heap.size (fun _ => True) (.slice (some ⟨go15, 0, none⟩) x6_2.length co16) y431 := (by rw [hw, Ny431.out]; exact HP17.1); clear HP17; have n0_ := Aside0.mk (hp_); have n1_ := Aside0.mk ((by rw [hw]; exact below_set (HB.out) GB15.out : Below w.heap.size w w18)); clear HO_6; clear HB; have HO_6 := n0_; have HB := n1_; clear n0_ n1_; clear hg hw hp_))
                go_roundg k2
                case measure => have := HJ2.out; have := HK2.out; omega
                case rel => exact ⟨(y431), (wrap64 (x8_2 + 1)), (by first | rfl | (simp; done) | (simp [*]; done)), H', ⟨by have := HJ2.out; have := HK2.out; omega⟩, ⟨by (with_reducible repeat (first | apply Kd.R_alloc | apply Kd.R_drewN | apply Kd.R_drew)); exact HO_6.out⟩, ⟨by repeat (first | (with_reducible first | exact HB.out | apply below_alloc | apply pw_below_drewN | apply below_drew1) | exact HB.out)⟩⟩
              · rw [if_neg c14] at H
                exact absurd H (by simp)
            · rw [if_neg c13] at H
              have c13b0 : decide (x8_2 < (x6_2.length : Int)) = false := decide_eq_false c13
              clear c13
              simp only [Option.some.injEq, Prod.mk.injEq] at H
              obtain ⟨rfl, rfl⟩ := H
              obtain ⟨Ao19, co19, eo19⟩ := Kd.R_slice HO_6.out
              subst eo19
              go_wp2
              go_ret2
              exact ⟨_, by first | rfl | (simp [errW_none, errW_some] <;> rfl) | (simp [*, errW_none, errW_some] <;> rfl) | (simp (disch := first | assumption | omega) only [Int.tdiv_eq_ediv_of_nonneg, Int.tmod_eq_emod_of_nonneg]; rfl), by (with_reducible repeat (first | apply Kd.R_alloc | apply Kd.R_drewN | apply Kd.R_drew)); exact HO_6.out, by repeat (first | (with_reducible first | exact HB.out | apply below_alloc | apply pw_below_drewN | apply below_drew1) | exact HB.out)⟩

end Go.Proofs.Ytidonenkdibaoaa.PX
end
section
namespace Go.Proofs.Ytidonenkdibaoaa.PX
open Go.RowKit Go.Proofs.YtidonenkdibaoaaW.PrintWords Go.Proofs.YtidonenkdibaoaaW.PrintLast Go.Proofs.YtidonenkdibaoaaW.PrintMore
attribute [local go_sem] max2_int min2_int max_two min_two max_three min_three max_four min_four   -- for this text's walks alone
set_option linter.unusedVariables false
set_option linter.unusedSimpArgs false

/-! ### customslaw03_SpreadSign: function 9 -/
def customslaw03_SpreadSign.f (k : Nat) (a0 : Int) (l1 : List Int) (a2 : Bool) (a3 : Bool) : Option (Bool) := if a3 = true then (if (l1.length : Int) > 1100 then (if 1100 ≤ (l1.length : Int) then ((apportion_Spread.f k a0 (l1.take 1100)).bind fun bt433 => ((customsref02_Spread.f k a0 (l1.take 1100)).bind fun bt437 => (if bt433.2 = bt437.2 then ((customsref02_Same.f k bt433.1 bt437.1).bind fun t441 => (if t441 = true then ((customslaw03_awake.f k).bind fun t442 => (some t442)) else (some false))) else (some false)))) else (none)) else ((apportion_Spread.f k a0 l1).bind fun bt443 => ((customsref02_Spread.f k a0 l1).bind fun bt447 => (if bt443.2 = bt447.2 then ((customsref02_Same.f k bt443.1 bt447.1).bind fun t451 => (if t451 = true then ((customslaw03_awake.f k).bind fun t452 => (some t452)) else (some false))) else (some false))))) else ((customslaw03_weights.f k l1 a2).bind fun t453 => (if (t453.length : Int) > 1100 then (if 1100 ≤ (t453.length : Int) then ((some (t453.take (1100 : Int).toNat : List Int)).bind fun y456 => ((apportion_Spread.f k (Int.tmod a0 1000000000001) y456).bind fun bt459 => ((customsref02_Spread.f k (Int.tmod a0 1000000000001) y456).bind fun bt463 => (if bt459.2 = bt463.2 then ((customsref02_Same.f k bt459.1 bt463.1).bind fun t467 => (if t467 = true then ((customslaw03_awake.f k).bind fun t468 => (some t468)) else (some false))) else (some false))))) else (none)) else ((apportion_Spread.f k (Int.tmod a0 1000000000001) t453).bind fun bt469 => ((customsref02_Spread.f k (Int.tmod a0 1000000000001) t453).bind fun bt473 => (if bt469.2 = bt473.2 then ((customsref02_Same.f k bt469.1 bt473.1).bind fun t477 => (if t477 = true then ((customslaw03_awake.f k).bind fun t478 => (some t478)) else (some false))) else (some false))))))
set_option maxHeartbeats 8000000 in
set_option maxRecDepth 100000 in
theorem customslaw03_SpreadSign.calls (k : Nat) (a0 : Int) (A1 : Option Addr) (c1 : Nat) (l1 : List Int) (a2 : Bool) (a3 : Bool) (r : Bool) (w : World) (hr1 : Kd.C (Kd.int .i64) w A1 l1.length l1) (hc1 : l1.length ≤ c1) (h : customslaw03_SpreadSign.f k a0 l1 a2 a3 = some r) :
    Calls Try.prog 9 #[.int .i64 a0, .slice A1 l1.length c1, .bool a2, .bool a3] w fun e w' => e = .returned (.bool r) ∧ Below w.heap.size w w' := by
  have HR1 := Aside0.mk hr1
  have HC1 := Aside0.mk hc1
  clear hr1 hc1
  have HB := Aside0.mk (Below.refl w.heap.size w)
  have H : (if a3 = true then (if (l1.length : Int) > 1100 then (if 1100 ≤ (l1.length : Int) then ((apportion_Spread.f k a0 (l1.take 1100)).bind fun bt433 => ((customsref02_Spread.f k a0 (l1.take 1100)).bind fun bt437 => (if bt433.2 = bt437.2 then ((customsref02_Same.f k bt433.1 bt437.1).bind fun t441 => (if t441 = true then ((customslaw03_awake.f k).bind fun t442 => (some t442)) else (some false))) else (some false)))) else (none)) else ((apportion_Spread.f k a0 l1).bind fun bt443 => ((customsref02_Spread.f k a0 l1).bind fun bt447 => (if bt443.2 = bt447.2 then ((customsref02_Same.f k bt443.1 bt447.1).bind fun t451 => (if t451 = true then ((customslaw03_awake.f k).bind fun t452 => (some t452)) else (some false))) else (some false))))) else ((customslaw03_weights.f k l1 a2).bind fun t453 => (if (t453.length : Int) > 1100 then (if 1100 ≤ (t453.length : Int) then ((some (t453.take (1100 : Int).toNat : List Int)).bind fun y456 => ((apportion_Spread.f k (Int.tmod a0 1000000000001) y456).bind fun bt459 => ((customsref02_Spread.f k (Int.tmod a0 1000000000001) y456).bind fun bt463 => (if bt459.2 = bt463.2 then ((customsref02_Same.f k bt459.1 bt463.1).bind fun t467 => (if t467 = true then ((customslaw03_awake.f k).bind fun t468 => (some t468)) else (some false))) else (some false))))) else (none)) else ((apportion_Spread.f k (Int.tmod a0 1000000000001) t453).bind fun bt469 => ((customsref02_Spread.f k (Int.tmod a0 1000000000001) t453).bind fun bt473 => (if bt469.2 = bt473.2 then ((customsref02_Same.f k bt469.1 bt473.1).bind fun t477 => (if t477 = true then ((customslaw03_awake.f k).bind fun t478 => (some t478)) else (some false))) else (some false))))))) = some r := h
  clear h
  by_cases c5 : a3 = true
  · subst c5
    have H1 : (if (l1.length : Int) > 1100 then (if 1100 ≤ (l1.length : Int) then ((apportion_Spread.f k a0 (l1.take 1100)).bind fun bt433 => ((customsref02_Spread.f k a0 (l1.take 1100)).bind fun bt437 => (if bt433.2 = bt437.2 then ((customsref02_Same.f k bt433.1 bt437.1).bind fun t441 => (if t441 = true then ((customslaw03_awake.f k).bind fun t442 => (some t442)) else (some false))) else (some false)))) else (none)) else ((apportion_Spread.f k a0 l1).bind fun bt443 => ((customsref02_Spread.f k a0 l1).bind fun bt447 => (if bt443.2 = bt447.2 then ((customsref02_Same.f k bt443.1 bt447.1).bind fun t451 => (if t451 = true then ((customslaw03_awake.f k).bind fun t452 => (some t452)) else (some false))) else (some false))))) = some r := by rw [if_pos rfl] at H; exact H
    clear H
    have H := H1
    clear H1
    by_cases c6 : (l1.length : Int) > 1100
    · rw [if_pos c6] at H
      have c6b0 : decide (1100 < (l1.length : Int)) = true := decide_eq_true c6
      have c6b1 : decide (1100 < l1.length) = true := decide_eq_true (by omega)
      clear c6
      by_cases c7 : 1100 ≤ (l1.length : Int)
      · rw [if_pos c7] at H
        have c7b0 := eq_true c7
        have c7b1 : decide (1100 ≤ (l1.length : Int)) = true := decide_eq_true c7
        clear c7
        replace H := Option.bind_eq_some_iff.mp H
        obtain ⟨⟨t433, t434⟩, A80, H⟩ := H
        replace H : ((customsref02_Spread.f k a0 (l1.take 1100)).bind fun bt437 => (if t434 = bt437.2 then ((customsref02_Same.f k t433 bt437.1).bind fun t441 => (if t441 = true then ((customslaw03_awake.f k).bind fun t442 => (some t442)) else (some false))) else (some false))) = some r := H
        have A8 := Aside0.mk A80
        clear A80
        replace H := Option.bind_eq_some_iff.mp H
        obtain ⟨⟨t437, t438⟩, A90, H⟩ := H
        replace H : (if t434 = t438 then ((customsref02_Same.f k t433 t437).bind fun t441 => (if t441 = true then ((customslaw03_awake.f k).bind fun t442 => (some t442)) else (some false))) else (some false)) = some r := H
        have A9 := Aside0.mk A90
        clear A90
        by_cases c10 : t434 = t438
        · rw [if_pos c10] at H
          have c10b0 : (t434 == t438) = true := beq_iff_eq.mpr c10
          have c10b1 : (t434 != t438) = false := bne_eq_false_iff_eq.mpr c10
          clear c10
          replace H := Option.bind_eq_some_iff.mp H
          obtain ⟨t441, A110, H⟩ := H
          replace H : (if t441 = true then ((customslaw03_awake.f k).bind fun t442 => (some t442)) else (some false)) = some r := H
          have A11 := Aside0.mk A110
          clear A110
          by_cases c12 : t441 = true
          · subst c12
            have H1 : ((customslaw03_awake.f k).bind fun t442 => (some t442)) = some r := by rw [if_pos rfl] at H; exact H
            clear H
            have H := H1
            clear H1
            replace H := Option.bind_eq_some_iff.mp H
            obtain ⟨t442, A130, H⟩ := H
            replace H : (some t442) = some r := H
            have A13 := Aside0.mk A130
            clear A130
            obtain rfl := Option.some.inj H
            obtain ⟨i014, hi014, _, hsz14, _⟩ := info_parts info3
            obtain ⟨hcut14, hA14, hC14⟩ := print_take_of (P := Try.prog) (Value.int .i64) 0 22 3 .i64 Try.underlying22 hi014 hsz14 A1 c1 l1 1100 (by omega) (of_decide_eq_true (by first | (with_reducible assumption) | assumption)) HC1.out
            have HR432 := Aside0.mk (Kd.C_of_reads (h1 := fun _ => rfl) (hA14 _ (Kd.reads_of_C HR1.out)))
            have HC432 := Aside0.mk hC14
            clear hA14 hC14 hi014 hsz14
            go_enter Try.func9, Try.ntmps9
            go_wp2_with (first | ((with_reducible refine gate_callee (f := 18) rfl ?_); refine goesL_ (some 28) rfl rfl Try.func18 (by kernel_rfl) rfl #[.int .i64 a0, .slice A1 (l1.take 1100).length c1] rfl (by (try simp only [List.map_toArray, List.map_cons, List.map_nil]); first | done | (rw [show (l1.take 1100).length = 1100 from (by rw [List.length_take]; have h_ : (1100 : Int) ≤ (l1.length : Int) := of_decide_eq_true (by first | (with_reducible assumption) | assumption); omega)] <;> rfl) | rfl | (simp only [List.length_drop, List.length_take]; rfl)) ?_; (with_reducible refine (apportion_Spread.calls k a0 _ _ (l1.take 1100) t433 t434 _ ?side1 ?side2 A8.out).mono ?_); (case side1 => repeat (first | exact HR432.out | (with_reducible refine Kd.C_alloc ?_ _) | (with_reducible refine Kd.C_drewN ?_ _) | (with_reducible refine Kd.C_drew ?_))); (case side2 => exact HC432.out); rintro e w15 ⟨v435, rfl, ho0, hb⟩; refine ⟨_, rfl, ?_⟩; have n0_ := Aside0.mk (Kd.R_lower ho0 (below_size (by repeat (first | (with_reducible first | exact HB.out | apply below_alloc | apply pw_below_drewN | apply below_drew1) | exact HB.out)))); have n1_ := Aside0.mk (below_step (by repeat (first | (with_reducible first | exact HB.out | apply below_alloc | apply pw_below_drewN | apply below_drew1) | exact HB.out)) hb); clear HB; have HO436 := n0_; have HB := n1_; clear n0_ n1_; (try clear hb); (try clear hb2); (try clear hk); (try clear hi); (try clear ho0)) | ((with_reducible refine gate_callee (f := 19) rfl ?_); refine goesL_ (some 34) rfl rfl Try.func19 (by kernel_rfl) rfl #[.int .i64 a0, .slice A1 (l1.take 1100).length c1] rfl (by (try simp only [List.map_toArray, List.map_cons, List.map_nil]); first | done | (rw [show (l1.take 1100).length = 1100 from (by rw [List.length_take]; have h_ : (1100 : Int) ≤ (l1.length : Int) := of_decide_eq_true (by first | (with_reducible assumption) | assumption); omega)] <;> rfl) | rfl | (simp only [List.length_drop, List.length_take]; rfl)) ?_; (with_reducible refine (customsref02_Spread.calls k a0 _ _ (l1.take 1100) t437 t438 _ ?side1 ?side2 A9.out).mono ?_); (case side1 => repeat (first | exact (Kd.C_below HR432.out HB.out) | (with_reducible refine Kd.C_alloc ?_ _) | (with_reducible refine Kd.C_drewN ?_ _) | (with_reducible refine Kd.C_drew ?_))); (case side2 => exact HC432.out); rintro e w16 ⟨v439, rfl, ho0, hb⟩; refine ⟨_, rfl, ?_⟩; have n0_ := Aside0.mk (Kd.R_elder' (by (with_reducible repeat (first | apply Kd.R_alloc | apply Kd.R_drewN | apply Kd.R_drew)); exact HO436.out) (Kd.R_base ho0) hb); have n1_ := Aside0.mk (Kd.R_lower (Kd.R_new' ho0 (Kd.R_lt (by (with_reducible repeat (first | apply Kd.R_alloc | apply Kd.R_drewN | apply Kd.R_drew)); exact HO436.out))) (below_size (by repeat (first | (with_reducible first | exact HB.out | apply below_alloc | apply pw_below_drewN | apply below_drew1) | exact HB.out)))); have n2_ := Aside0.mk (below_step (by repeat (first | (with_reducible first | exact HB.out | apply below_alloc | apply pw_below_drewN | apply below_drew1) | exact HB.out)) hb); clear HO436; clear HB; have HO436 := n0_; have HO440 := n1_; have HB := n2_; clear n0_ n1_ n2_; (try clear hb); (try clear hb2); (try clear hk); (try clear hi); (try clear ho0); obtain ⟨Ao17, co17, eo17⟩ := Kd.R_slice HO436.out; subst eo17; obtain ⟨Ao18, co18, eo18⟩ := Kd.R_slice HO440.out; subst eo18) | (go_at_call 14; (with_reducible refine (customsref02_Same.calls k _ _ t433 _ _ t437 true _ ?side1 ?side2 ?side3 ?side4 A11.out).mono ?_); (case side1 => repeat (first | exact (Kd.R_reads' HO436.out).2.2 | (with_reducible refine Kd.C_alloc ?_ _) | (with_reducible refine Kd.C_drewN ?_ _) | (with_reducible refine Kd.C_drew ?_))); (case side2 => exact (Kd.R_reads' HO436.out).2.1); (case side3 => repeat (first | exact (Kd.R_reads' HO440.out).2.2 | (with_reducible refine Kd.C_alloc ?_ _) | (with_reducible refine Kd.C_drewN ?_ _) | (with_reducible refine Kd.C_drew ?_))); (case side4 => exact (Kd.R_reads' HO440.out).2.1); rintro e w' ⟨rfl, ⟨nd, rfl⟩⟩) | (go_at_call 15; (with_reducible refine (customslaw03_awake.calls k  t442 _ A13.out).mono ?_); rintro e w19 ⟨rfl, hb⟩; have n0_ := Aside0.mk (Kd.R_below (by (with_reducible repeat (first | apply Kd.R_alloc | apply Kd.R_drewN | apply Kd.R_drew)); exact HO436.out) hb); have n1_ := Aside0.mk (Kd.R_below (by (with_reducible repeat (first | apply Kd.R_alloc | apply Kd.R_drewN | apply Kd.R_drew)); exact HO440.out) hb); have n2_ := Aside0.mk (below_step (by repeat (first | (with_reducible first | exact HB.out | apply below_alloc | apply pw_below_drewN | apply below_drew1) | exact HB.out)) hb); clear HO436; clear HO440; clear HB; have HO436 := n0_; have HO440 := n1_; have HB := n2_; clear n0_ n1_ n2_; (try clear hb); (try clear hb2); (try clear hk); (try clear hi)))
            go_ret
            exact ⟨by first | rfl | (simp [errW_none, errW_some] <;> rfl) | (simp [*, errW_none, errW_some] <;> rfl) | (simp (disch := first | assumption | omega) only [Int.tdiv_eq_ediv_of_nonneg, Int.tmod_eq_emod_of_nonneg]; rfl), by repeat (first | (with_reducible first | exact HB.out | apply below_alloc | apply pw_below_drewN | apply below_drew1) | exact HB.out)⟩
          · replace c12 := Bool.eq_false_iff.mpr c12
            subst c12
            have H1 : (some false) = some r := by rw [if_neg (show ¬ (false = true) by decide)] at H; exact H
            clear H
            have H := H1
            clear H1
            obtain rfl := Option.some.inj H
            obtain ⟨i020, hi020, _, hsz20, _⟩ := info_parts info3
            obtain ⟨hcut20, hA20, hC20⟩ := print_take_of (P := Try.prog) (Value.int .i64) 0 22 3 .i64 Try.underlying22 hi020 hsz20 A1 c1 l1 1100 (by omega) (of_decide_eq_true (by first | (with_reducible assumption) | assumption)) HC1.out
            have HR432 := Aside0.mk (Kd.C_of_reads (h1 := fun _ => rfl) (hA20 _ (Kd.reads_of_C HR1.out)))
            have HC432 := Aside0.mk hC20
            clear hA20 hC20 hi020 hsz20
            go_enter Try.func9, Try.ntmps9
            go_wp2_with (first | ((with_reducible refine gate_callee (f := 18) rfl ?_); refine goesL_ (some 28) rfl rfl Try.func18 (by kernel_rfl) rfl #[.int .i64 a0, .slice A1 (l1.take 1100).length c1] rfl (by (try simp only [List.map_toArray, List.map_cons, List.map_nil]); first | done | (rw [show (l1.take 1100).length = 1100 from (by rw [List.length_take]; have h_ : (1100 : Int) ≤ (l1.length : Int) := of_decide_eq_true (by first | (with_reducible assumption) | assumption); omega)] <;> rfl) | rfl | (simp only [List.length_drop, List.length_take]; rfl)) ?_; (with_reducible refine (apportion_Spread.calls k a0 _ _ (l1.take 1100) t433 t434 _ ?side1 ?side2 A8.out).mono ?_); (case side1 => repeat (first | exact HR432.out | (with_reducible refine Kd.C_alloc ?_ _) | (with_reducible refine Kd.C_drewN ?_ _) | (with_reducible refine Kd.C_drew ?_))); (case side2 => exact HC432.out); rintro e w21 ⟨v435, rfl, ho0, hb⟩; refine ⟨_, rfl, ?_⟩; have n0_ := Aside0.mk (Kd.R_lower ho0 (below_size (by repeat (first | (with_reducible first | exact HB.out | apply below_alloc | apply pw_below_drewN | apply below_drew1) | exact HB.out)))); have n1_ := Aside0.mk (below_step (by repeat (first | (with_reducible first | exact HB.out | apply below_alloc | apply pw_below_drewN | apply below_drew1) | exact HB.out)) hb); clear HB; have HO436 := n0_; have HB := n1_; clear n0_ n1_; (try clear hb); (try clear hb2); (try clear hk); (try clear hi); (try clear ho0)) | ((with_reducible refine gate_callee (f := 19) rfl ?_); refine goesL_ (some 34) rfl rfl Try.func19 (by kernel_rfl) rfl #[.int .i64 a0, .slice A1 (l1.take 1100).length c1] rfl (by (try simp only [List.map_toArray, List.map_cons, List.map_nil]); first | done | (rw [show (l1.take 1100).length = 1100 from (by rw [List.length_take]; have h_ : (1100 : Int) ≤ (l1.length : Int) := of_decide_eq_true (by first | (with_reducible assumption) | assumption); omega)] <;> rfl) | rfl | (simp only [List.length_drop, List.length_take]; rfl)) ?_; (with_reducible refine (customsref02_Spread.calls k a0 _ _ (l1.take 1100) t437 t438 _ ?side1 ?side2 A9.out).mono ?_); (case side1 => repeat (first | exact (Kd.C_below HR432.out HB.out) | (with_reducible refine Kd.C_alloc ?_ _) | (with_reducible refine Kd.C_drewN ?_ _) | (with_reducible refine Kd.C_drew ?_))); (case side2 => exact HC432.out); rintro e w22 ⟨v439, rfl, ho0, hb⟩; refine ⟨_, rfl, ?_⟩; have n0_ := Aside0.mk (Kd.R_elder' (by (with_reducible repeat (first | apply Kd.R_alloc | apply Kd.R_drewN | apply Kd.R_drew)); exact HO436.out) (Kd.R_base ho0) hb); have n1_ := Aside0.mk (Kd.R_lower (Kd.R_new' ho0 (Kd.R_lt (by (with_reducible repeat (first | apply Kd.R_alloc | apply Kd.R_drewN | apply Kd.R_drew)); exact HO436.out))) (below_size (by repeat (first | (with_reducible first | exact HB.out | apply below_alloc | apply pw_below_drewN | apply below_drew1) | exact HB.out)))); have n2_ := Aside0.mk (below_step (by repeat (first | (with_reducible first | exact HB.out | apply below_alloc | apply pw_below_drewN | apply below_drew1) | exact HB.out)) hb); clear HO436; clear HB; have HO436 := n0_; have HO440 := n1_; have HB := n2_; clear n0_ n1_ n2_; (try clear hb); (try clear hb2); (try clear hk); (try clear hi); (try clear ho0); obtain ⟨Ao23, co23, eo23⟩ := Kd.R_slice HO436.out; subst eo23; obtain ⟨Ao24, co24, eo24⟩ := Kd.R_slice HO440.out; subst eo24) | (go_at_call 14; (with_reducible refine (customsref02_Same.calls k _ _ t433 _ _ t437 false _ ?side1 ?side2 ?side3 ?side4 A11.out).mono ?_); (case side1 => repeat (first | exact (Kd.R_reads' HO436.out).2.2 | (with_reducible refine Kd.C_alloc ?_ _) | (with_reducible refine Kd.C_drewN ?_ _) | (with_reducible refine Kd.C_drew ?_))); (case side2 => exact (Kd.R_reads' HO436.out).2.1); (case side3 => repeat (first | exact (Kd.R_reads' HO440.out).2.2 | (with_reducible refine Kd.C_alloc ?_ _) | (with_reducible refine Kd.C_drewN ?_ _) | (with_reducible refine Kd.C_drew ?_))); (case side4 => exact (Kd.R_reads' HO440.out).2.1); rintro e w' ⟨rfl, ⟨nd, rfl⟩⟩))
            go_ret
            exact ⟨by first | rfl | (simp [errW_none, errW_some] <;> rfl) | (simp [*, errW_none, errW_some] <;> rfl) | (simp (disch := first | assumption | omega) only [Int.tdiv_eq_ediv_of_nonneg, Int.tmod_eq_emod_of_nonneg]; rfl), by repeat (first | (with_reducible first | exact HB.out | apply below_alloc | apply pw_below_drewN | apply below_drew1) | exact HB.out)⟩
        · rw [if_neg c10] at H
          have c10b0 : (t434 == t438) = false := beq_eq_false_iff_ne.mpr c10
          have c10b1 : (t434 != t438) = true := bne_iff_ne.mpr c10
          obtain rfl := Option.some.inj H
          obtain ⟨i025, hi025, _, hsz25, _⟩ := info_parts info3
          obtain ⟨hcut25, hA25, hC25⟩ := print_take_of (P := Try.prog) (Value.int .i64) 0 22 3 .i64 Try.underlying22 hi025 hsz25 A1 c1 l1 1100 (by omega) (of_decide_eq_true (by first | (with_reducible assumption) | assumption)) HC1.out
          have HR432 := Aside0.mk (Kd.C_of_reads (h1 := fun _ => rfl) (hA25 _ (Kd.reads_of_C HR1.out)))
          have HC432 := Aside0.mk hC25
          clear hA25 hC25 hi025 hsz25
          go_enter Try.func9, Try.ntmps9
          go_wp2_with (first | ((with_reducible refine gate_callee (f := 18) rfl ?_); refine goesL_ (some 28) rfl rfl Try.func18 (by kernel_rfl) rfl #[.int .i64 a0, .slice A1 (l1.take 1100).length c1] rfl (by (try simp only [List.map_toArray, List.map_cons, List.map_nil]); first | done | (rw [show (l1.take 1100).length = 1100 from (by rw [List.length_take]; have h_ : (1100 : Int) ≤ (l1.length : Int) := of_decide_eq_true (by first | (with_reducible assumption) | assumption); omega)] <;> rfl) | rfl | (simp only [List.length_drop, List.length_take]; rfl)) ?_; (with_reducible refine (apportion_Spread.calls k a0 _ _ (l1.take 1100) t433 t434 _ ?side1 ?side2 A8.out).mono ?_); (case side1 => repeat (first | exact HR432.out | (with_reducible refine Kd.C_alloc ?_ _) | (with_reducible refine Kd.C_drewN ?_ _) | (with_reducible refine Kd.C_drew ?_))); (case side2 => exact HC432.out); rintro e w26 ⟨v435, rfl, ho0, hb⟩; refine ⟨_, rfl, ?_⟩; have n0_ := Aside0.mk (Kd.R_lower ho0 (below_size (by repeat (first | (with_reducible first | exact HB.out | apply below_alloc | apply pw_below_drewN | apply below_drew1) | exact HB.out)))); have n1_ := Aside0.mk (below_step (by repeat (first | (with_reducible first | exact HB.out | apply below_alloc | apply pw_below_drewN | apply below_drew1) | exact HB.out)) hb); clear HB; have HO436 := n0_; have HB := n1_; clear n0_ n1_; (try clear hb); (try clear hb2); (try clear hk); (try clear hi); (try clear ho0)) | ((with_reducible refine gate_callee (f := 19) rfl ?_); refine goesL_ (some 34) rfl rfl Try.func19 (by kernel_rfl) rfl #[.int .i64 a0, .slice A1 (l1.take 1100).length c1] rfl (by (try simp only [List.map_toArray, List.map_cons, List.map_nil]); first | done | (rw [show (l1.take 1100).length = 1100 from (by rw [List.length_take]; have h_ : (1100 : Int) ≤ (l1.length : Int) := of_decide_eq_true (by first | (with_reducible assumption) | assumption); omega)] <;> rfl) | rfl | (simp only [List.length_drop, List.length_take]; rfl)) ?_; (with_reducible refine (customsref02_Spread.calls k a0 _ _ (l1.take 1100) t437 t438 _ ?side1 ?side2 A9.out).mono ?_); (case side1 => repeat (first | exact (Kd.C_below HR432.out HB.out) | (with_reducible refine Kd.C_alloc ?_ _) | (with_reducible refine Kd.C_drewN ?_ _) | (with_reducible refine Kd.C_drew ?_))); (case side2 => exact HC432.out); rintro e w27 ⟨v439, rfl, ho0, hb⟩; refine ⟨_, rfl, ?_⟩; have n0_ := Aside0.mk (Kd.R_elder' (by (with_reducible repeat (first | apply Kd.R_alloc | apply Kd.R_drewN | apply Kd.R_drew)); exact HO436.out) (Kd.R_base ho0) hb); have n1_ := Aside0.mk (Kd.R_lower (Kd.R_new' ho0 (Kd.R_lt (by (with_reducible repeat (first | apply Kd.R_alloc | apply Kd.R_drewN | apply Kd.R_drew)); exact HO436.out))) (below_size (by repeat (first | (with_reducible first | exact HB.out | apply below_alloc | apply pw_below_drewN | apply below_drew1) | exact HB.out)))); have n2_ := Aside0.mk (below_step (by repeat (first | (with_reducible first | exact HB.out | apply below_alloc | apply pw_below_drewN | apply below_drew1) | exact HB.out)) hb); clear HO436; clear HB; have HO436 := n0_; have HO440 := n1_; have HB := n2_; clear n0_ n1_ n2_; (try clear hb); (try clear hb2); (try clear hk); (try clear hi); (try clear ho0)))
          go_ret
          exact ⟨by first | rfl | (simp [errW_none, errW_some] <;> rfl) | (simp [*, errW_none, errW_some] <;> rfl) | (simp (disch := first | assumption | omega) only [Int.tdiv_eq_ediv_of_nonneg, Int.tmod_eq_emod_of_nonneg]; rfl), by repeat (first | (with_reducible first | exact HB.out | apply below_alloc | apply pw_below_drewN | apply below_drew1) | exact HB.out)⟩
      · rw [if_neg c7] at H
        exact absurd H (by simp)
    · rw [if_neg c6] at H
      have c6b0 : decide (1100 < (l1.length : Int)) = false := decide_eq_false c6
      have c6b1 : decide (1100 < l1.length) = false := decide_eq_false (by omega)
      clear c6
      replace H := Option.bind_eq_some_iff.mp H
      obtain ⟨⟨t443, t444⟩, A280, H⟩ := H
      replace H : ((customsref02_Spread.f k a0 l1).bind fun bt447 => (if t444 = bt447.2 then ((customsref02_Same.f k t443 bt447.1).bind fun t451 => (if t451 = true then ((customslaw03_awake.f k).bind fun t452 => (some t452)) else (some false))) else (some false))) = some r := H
      have A28 := Aside0.mk A280
      clear A280
      replace H := Option.bind_eq_some_iff.mp H
      obtain ⟨⟨t447, t448⟩, A290, H⟩ := H
      replace H : (if t444 = t448 then ((customsref02_Same.f k t443 t447).bind fun t451 => (if t451 = true then ((customslaw03_awake.f k).bind fun t452 => (some t452)) else (some false))) else (some false)) = some r := H
      have A29 := Aside0.mk A290
      clear A290
      by_cases c30 : t444 = t448
      · rw [if_pos c30] at H
        have c30b0 : (t444 == t448) = true := beq_iff_eq.mpr c30
        have c30b1 : (t444 != t448) = false := bne_eq_false_iff_eq.mpr c30
        clear c30
        replace H := Option.bind_eq_some_iff.mp H
        obtain ⟨t451, A310, H⟩ := H
        replace H : (if t451 = true then ((customslaw03_awake.f k).bind fun t452 => (some t452)) else (some false)) = some r := H
        have A31 := Aside0.mk A310
        clear A310
        by_cases c32 : t451 = true
        · subst c32
          have H1 : ((customslaw03_awake.f k).bind fun t452 => (some t452)) = some r := by rw [if_pos rfl] at H; exact H
          clear H
          have H := H1
          clear H1
          replace H := Option.bind_eq_some_iff.mp H
          obtain ⟨t452, A330, H⟩ := H
          replace H : (some t452) = some r := H
          have A33 := Aside0.mk A330
          clear A330
          obtain rfl := Option.some.inj H
          go_enter Try.func9, Try.ntmps9
          go_wp2_with (first | ((with_reducible refine gate_callee (f := 18) rfl ?_); refine goesL_ (some 28) rfl rfl Try.func18 (by kernel_rfl) rfl #[.int .i64 a0, .slice A1 l1.length c1] rfl (by (try simp only [List.map_toArray, List.map_cons, List.map_nil]); first | done | rfl | (simp only [List.length_drop, List.length_take]; rfl)) ?_; (with_reducible refine (apportion_Spread.calls k a0 _ _ l1 t443 t444 _ ?side1 ?side2 A28.out).mono ?_); (case side1 => repeat (first | exact HR1.out | (with_reducible refine Kd.C_alloc ?_ _) | (with_reducible refine Kd.C_drewN ?_ _) | (with_reducible refine Kd.C_drew ?_))); (case side2 => exact HC1.out); rintro e w34 ⟨v445, rfl, ho0, hb⟩; refine ⟨_, rfl, ?_⟩; have n0_ := Aside0.mk (Kd.R_lower ho0 (below_size (by repeat (first | (with_reducible first | exact HB.out | apply below_alloc | apply pw_below_drewN | apply below_drew1) | exact HB.out)))); have n1_ := Aside0.mk (below_step (by repeat (first | (with_reducible first | exact HB.out | apply below_alloc | apply pw_below_drewN | apply below_drew1) | exact HB.out)) hb); clear HB; have HO446 := n0_; have HB := n1_; clear n0_ n1_; (try clear hb); (try clear hb2); (try clear hk); (try clear hi); (try clear ho0)) | ((with_reducible refine gate_callee (f := 19) rfl ?_); refine goesL_ (some 34) rfl rfl Try.func19 (by kernel_rfl) rfl #[.int .i64 a0, .slice A1 l1.length c1] rfl (by (try simp only [List.map_toArray, List.map_cons, List.map_nil]); first | done | rfl | (simp only [List.length_drop, List.length_take]; rfl)) ?_; (with_reducible refine (customsref02_Spread.calls k a0 _ _ l1 t447 t448 _ ?side1 ?side2 A29.out).mono ?_); (case side1 => repeat (first | exact (Kd.C_below HR1.out HB.out) | (with_reducible refine Kd.C_alloc ?_ _) | (with_reducible refine Kd.C_drewN ?_ _) | (with_reducible refine Kd.C_drew ?_))); (case side2 => exact HC1.out); rintro e w35 ⟨v449, rfl, ho0, hb⟩; refine ⟨_, rfl, ?_⟩; have n0_ := Aside0.mk (Kd.R_elder' (by (with_reducible repeat (first | apply Kd.R_alloc | apply Kd.R_drewN | apply Kd.R_drew)); exact HO446.out) (Kd.R_base ho0) hb); have n1_ := Aside0.mk (Kd.R_lower (Kd.R_new' ho0 (Kd.R_lt (by (with_reducible repeat (first | apply Kd.R_alloc | apply Kd.R_drewN | apply Kd.R_drew)); exact HO446.out))) (below_size (by repeat (first | (with_reducible first | exact HB.out | apply below_alloc | apply pw_below_drewN | apply below_drew1) | exact HB.out)))); have n2_ := Aside0.mk (below_step (by repeat (first | (with_reducible first | exact HB.out | apply below_alloc | apply pw_below_drewN | apply below_drew1) | exact HB.out)) hb); clear HO446; clear HB; have HO446 := n0_; have HO450 := n1_; have HB := n2_; clear n0_ n1_ n2_; (try clear hb); (try clear hb2); (try clear hk); (try clear hi); (try clear ho0); obtain ⟨Ao36, co36, eo36⟩ := Kd.R_slice HO446.out; subst eo36; obtain ⟨Ao37, co37, eo37⟩ := Kd.R_slice HO450.out; subst eo37) | (go_at_call 14; (with_reducible refine (customsref02_Same.calls k _ _ t443 _ _ t447 true _ ?side1 ?side2 ?side3 ?side4 A31.out).mono ?_); (case side1 => repeat (first | exact (Kd.R_reads' HO446.out).2.2 | (with_reducible refine Kd.C_alloc ?_ _) | (with_reducible refine Kd.C_drewN ?_ _) | (with_reducible refine Kd.C_drew ?_))); (case side2 => exact (Kd.R_reads' HO446.out).2.1); (case side3 => repeat (first | exact (Kd.R_reads' HO450.out).2.2 | (with_reducible refine Kd.C_alloc ?_ _) | (with_reducible refine Kd.C_drewN ?_ _) | (with_reducible refine Kd.C_drew ?_))); (case side4 => exact (Kd.R_reads' HO450.out).2.1); rintro e w' ⟨rfl, ⟨nd, rfl⟩⟩) | (go_at_call 15; (with_reducible refine (customslaw03_awake.calls k  t452 _ A33.out).mono ?_); rintro e w38 ⟨rfl, hb⟩; have n0_ := Aside0.mk (Kd.R_below (by (with_reducible repeat (first | apply Kd.R_alloc | apply Kd.R_drewN | apply Kd.R_drew)); exact HO446.out) hb); have n1_ := Aside0.mk (Kd.R_below (by (with_reducible repeat (first | apply Kd.R_alloc | apply Kd.R_drewN | apply Kd.R_drew)); exact HO450.out) hb); have n2_ := Aside0.mk (below_step (by repeat (first | (with_reducible first | exact HB.out | apply below_alloc | apply pw_below_drewN | apply below_drew1) | exact HB.out)) hb); clear HO446; clear HO450; clear HB; have HO446 := n0_; have HO450 := n1_; have HB := n2_; clear n0_ n1_ n2_; (try clear hb); (try clear hb2); (try clear hk); (try clear hi)))
          go_ret
          exact ⟨by first | rfl | (simp [errW_none, errW_some] <;> rfl) | (simp [*, errW_none, errW_some] <;> rfl) | (simp (disch := first | assumption | omega) only [Int.tdiv_eq_ediv_of_nonneg, Int.tmod_eq_emod_of_nonneg]; rfl), by repeat (first | (with_reducible first | exact HB.out | apply below_alloc | apply pw_below_drewN | apply below_drew1) | exact HB.out)⟩
        · replace c32 := Bool.eq_false_iff.mpr c32
          subst c32
          have H1 : (some false) = some r := by rw [if_neg (show ¬ (false = true) by decide)] at H; exact H
          clear H
          have H := H1
          clear H1
          obtain rfl := Option.some.inj H
          go_enter Try.func9, Try.ntmps9
          go_wp2_with (first | ((with_reducible refine gate_callee (f := 18) rfl ?_); refine goesL_ (some 28) rfl rfl Try.func18 (by kernel_rfl) rfl #[.int .i64 a0, .slice A1 l1.length c1] rfl (by (try simp only [List.map_toArray, List.map_cons, List.map_nil]); first | done | rfl | (simp only [List.length_drop, List.length_take]; rfl)) ?_; (with_reducible refine (apportion_Spread.calls k a0 _ _ l1 t443 t444 _ ?side1 ?side2 A28.out).mono ?_); (case side1 => repeat (first | exact HR1.out | (with_reducible refine Kd.C_alloc ?_ _) | (with_reducible refine Kd.C_drewN ?_ _) | (with_reducible refine Kd.C_drew ?_))); (case side2 => exact HC1.out); rintro e w39 ⟨v445, rfl, ho0, hb⟩; refine ⟨_, rfl, ?_⟩; have n0_ := Aside0.mk (Kd.R_lower ho0 (below_size (by repeat (first | (with_reducible first | exact HB.out | apply below_alloc | apply pw_below_drewN | apply below_drew1) | exact HB.out)))); have n1_ := Aside0.mk (below_step (by repeat (first | (with_reducible first | exact HB.out | apply below_alloc | apply pw_below_drewN | apply below_drew1) | exact HB.out)) hb); clear HB; have HO446 := n0_; have HB := n1_; clear n0_ n1_; (try clear hb); (try clear hb2); (try clear hk); (try clear hi); (try clear ho0)) | ((with_reducible refine gate_callee (f := 19) rfl ?_); refine goesL_ (some 34) rfl rfl Try.func19 (by kernel_rfl) rfl #[.int .i64 a0, .slice A1 l1.length c1] rfl (by (try simp only [List.map_toArray, List.map_cons, List.map_nil]); first | done | rfl | (simp only [List.length_drop, List.length_take]; rfl)) ?_; (with_reducible refine (customsref02_Spread.calls k a0 _ _ l1 t447 t448 _ ?side1 ?side2 A29.out).mono ?_); (case side1 => repeat (first | exact (Kd.C_below HR1.out HB.out) | (with_reducible refine Kd.C_alloc ?_ _) | (with_reducible refine Kd.C_drewN ?_ _) | (with_reducible refine Kd.C_drew ?_))); (case side2 => exact HC1.out); rintro e w40 ⟨v449, rfl, ho0, hb⟩; refine ⟨_, rfl, ?_⟩; have n0_ := Aside0.mk (Kd.R_elder' (by (with_reducible repeat (first | apply Kd.R_alloc | apply Kd.R_drewN | apply Kd.R_drew)); exact HO446.out) (Kd.R_base ho0) hb); have n1_ := Aside0.mk (Kd.R_lower (Kd.R_new' ho0 (Kd.R_lt (by (with_reducible repeat (first | apply Kd.R_alloc | apply Kd.R_drewN | apply Kd.R_drew)); exact HO446.out))) (below_size (by repeat (first | (with_reducible first | exact HB.out | apply below_alloc | apply pw_below_drewN | apply below_drew1) | exact HB.out)))); have n2_ := Aside0.mk (below_step (by repeat (first | (with_reducible first | exact HB.out | apply below_alloc | apply pw_below_drewN | apply below_drew1) | exact HB.out)) hb); clear HO446; clear HB; have HO446 := n0_; have HO450 := n1_; have HB := n2_; clear n0_ n1_ n2_; (try clear hb); (try clear hb2); (try clear hk); (try clear hi); (try clear ho0); obtain ⟨Ao41, co41, eo41⟩ := Kd.R_slice HO446.out; subst eo41; obtain ⟨Ao42, co42, eo42⟩ := Kd.R_slice HO450.out; subst eo42) | (go_at_call 14; (with_reducible refine (customsref02_Same.calls k _ _ t443 _ _ t447 false _ ?side1 ?side2 ?side3 ?side4 A31.out).mono ?_); (case side1 => repeat (first | exact (Kd.R_reads' HO446.out).2.2 | (with_reducible refine Kd.C_alloc ?_ _) | (with_reducible refine Kd.C_drewN ?_ _) | (with_reducible refine Kd.C_drew ?_))); (case side2 => exact (Kd.R_reads' HO446.out).2.1); (case side3 => repeat (first | exact (Kd.R_reads' HO450.out).2.2 | (with_reducible refine Kd.C_alloc ?_ _) | (with_reducible refine Kd.C_drewN ?_ _) | (with_reducible refine Kd.C_drew ?_))); (case side4 => exact (Kd.R_reads' HO450.out).2.1); rintro e w' ⟨rfl, ⟨nd, rfl⟩⟩))
          go_ret
          exact ⟨by first | rfl | (simp [errW_none, errW_some] <;> rfl) | (simp [*, errW_none, errW_some] <;> rfl) | (simp (disch := first | assumption | omega) only [Int.tdiv_eq_ediv_of_nonneg, Int.tmod_eq_emod_of_nonneg]; rfl), by repeat (first | (with_reducible first | exact HB.out | apply below_alloc | apply pw_below_drewN | apply below_drew1) | exact HB.out)⟩
      · rw [if_neg c30] at H
        have c30b0 : (t444 == t448) = false := beq_eq_false_iff_ne.mpr c30
        have c30b1 : (t444 != t448) = true := bne_iff_ne.mpr c30
        obtain rfl := Option.some.inj H
        go_enter Try.func9, Try.ntmps9
        go_wp2_with (first | ((with_reducible refine gate_callee (f := 18) rfl ?_); refine goesL_ (some 28) rfl rfl Try.func18 (by kernel_rfl) rfl #[.int .i64 a0, .slice A1 l1.length c1] rfl (by (try simp only [List.map_toArray, List.map_cons, List.map_nil]); first | done | rfl | (simp only [List.length_drop, List.length_take]; rfl)) ?_; (with_reducible refine (apportion_Spread.calls k a0 _ _ l1 t443 t444 _ ?side1 ?side2 A28.out).mono ?_); (case side1 => repeat (first | exact HR1.out | (with_reducible refine Kd.C_alloc ?_ _) | (with_reducible refine Kd.C_drewN ?_ _) | (with_reducible refine Kd.C_drew ?_))); (case side2 => exact HC1.out); rintro e w43 ⟨v445, rfl, ho0, hb⟩; refine ⟨_, rfl, ?_⟩; have n0_ := Aside0.mk (Kd.R_lower ho0 (below_size (by repeat (first | (with_reducible first | exact HB.out | apply below_alloc | apply pw_below_drewN | apply below_drew1) | exact HB.out)))); have n1_ := Aside0.mk (below_step (by repeat (first | (with_reducible first | exact HB.out | apply below_alloc | apply pw_below_drewN | apply below_drew1) | exact HB.out)) hb); clear HB; have HO446 := n0_; have HB := n1_; clear n0_ n1_; (try clear hb); (try clear hb2); (try clear hk); (try clear hi); (try clear ho0)) | ((with_reducible refine gate_callee (f := 19) rfl ?_); refine goesL_ (some 34) rfl rfl Try.func19 (by kernel_rfl) rfl #[.int .i64 a0, .slice A1 l1.length c1] rfl (by (try simp only [List.map_toArray, List.map_cons, List.map_nil]); first | done | rfl | (simp only [List.length_drop, List.length_take]; rfl)) ?_; (with_reducible refine (customsref02_Spread.calls k a0 _ _ l1 t447 t448 _ ?side1 ?side2 A29.out).mono ?_); (case side1 => repeat (first | exact (Kd.C_below HR1.out HB.out) | (with_reducible refine Kd.C_alloc ?_ _) | (with_reducible refine Kd.C_drewN ?_ _) | (with_reducible refine Kd.C_drew ?_))); (case side2 => exact HC1.out); rintro e w44 ⟨v449, rfl, ho0, hb⟩; refine ⟨_, rfl, ?_⟩; have n0_ := Aside0.mk (Kd.R_elder' (by (with_reducible repeat (first | apply Kd.R_alloc | apply Kd.R_drewN | apply Kd.R_drew)); exact HO446.out) (Kd.R_base ho0) hb); have n1_ := Aside0.mk (Kd.R_lower (Kd.R_new' ho0 (Kd.R_lt (by (with_reducible repeat (first | apply Kd.R_alloc | apply Kd.R_drewN | apply Kd.R_drew)); exact HO446.out))) (below_size (by repeat (first | (with_reducible first | exact HB.out | apply below_alloc | apply pw_below_drewN | apply below_drew1) | exact HB.out)))); have n2_ := Aside0.mk (below_step (by repeat (first | (with_reducible first | exact HB.out | apply below_alloc | apply pw_below_drewN | apply below_drew1) | exact HB.out)) hb); clear HO446; clear HB; have HO446 := n0_; have HO450 := n1_; have HB := n2_; clear n0_ n1_ n2_; (try clear hb); (try clear hb2); (try clear hk); (try clear hi); (try clear ho0)))
        go_ret
        exact ⟨by first | rfl | (simp [errW_none, errW_some] <;> rfl) | (simp [*, errW_none, errW_some] <;> rfl) | (simp (disch := first | assumption | omega) only [Int.tdiv_eq_ediv_of_nonneg, Int.tmod_eq_emod_of_nonneg]; rfl), by repeat (first | (with_reducible first | exact HB.out | apply below_alloc | apply pw_below_drewN | apply below_drew1) | exact HB.out)⟩
  · replace c5 := Bool.eq_false_iff.mpr c5
    subst c5
    have H1 : ((customslaw03_weights.f k l1 a2).bind fun t453 => (if (t453.length : Int) > 1100 then (if 1100 ≤ (t453.length : Int) then ((some (t453.take (1100 : Int).toNat : List Int)).bind fun y456 => ((apportion_Spread.f k (Int.tmod a0 1000000000001) y456).bind fun bt459 => ((customsref02_Spread.f k (Int.tmod a0 1000000000001) y456).bind fun bt463 => (if bt459.2 = bt463.2 then ((customsref02_Same.f k bt459.1 bt463.1).bind fun t467 => (if t467 = true then ((customslaw03_awake.f k).bind fun t468 => (some t468)) else (some false))) else (some false))))) else (none)) else ((apportion_Spread.f k (Int.tmod a0 1000000000001) t453).bind fun bt469 => ((customsref02_Spread.f k (Int.tmod a0 1000000000001) t453).bind fun bt473 => (if bt469.2 = bt473.2 then ((customsref02_Same.f k bt469.1 bt473.1).bind fun t477 => (if t477 = true then ((customslaw03_awake.f k).bind fun t478 => (some t478)) else (some false))) else (some false)))))) = some r := by rw [if_neg (show ¬ (false = true) by decide)] at H; exact H
    clear H
    have H := H1
    clear H1
    replace H := Option.bind_eq_some_iff.mp H
    obtain ⟨t453, A450, H⟩ := H
    replace H : (if (t453.length : Int) > 1100 then (if 1100 ≤ (t453.length : Int) then ((some (t453.take (1100 : Int).toNat : List Int)).bind fun y456 => ((apportion_Spread.f k (Int.tmod a0 1000000000001) y456).bind fun bt459 => ((customsref02_Spread.f k (Int.tmod a0 1000000000001) y456).bind fun bt463 => (if bt459.2 = bt463.2 then ((customsref02_Same.f k bt459.1 bt463.1).bind fun t467 => (if t467 = true then ((customslaw03_awake.f k).bind fun t468 => (some t468)) else (some false))) else (some false))))) else (none)) else ((apportion_Spread.f k (Int.tmod a0 1000000000001) t453).bind fun bt469 => ((customsref02_Spread.f k (Int.tmod a0 1000000000001) t453).bind fun bt473 => (if bt469.2 = bt473.2 then ((customsref02_Same.f k bt469.1 bt473.1).bind fun t477 => (if t477 = true then ((customslaw03_awake.f k).bind fun t478 => (some t478)) else (some false))) else (some false))))) = some r := H
    have A45 := Aside0.mk A450
    clear A450
    by_cases c46 : (t453.length : Int) > 1100
    · rw [if_pos c46] at H
      have c46b0 : decide (1100 < (t453.length : Int)) = true := decide_eq_true c46
      have c46b1 : decide (1100 < t453.length) = true := decide_eq_true (by omega)
      clear c46
      by_cases c47 : 1100 ≤ (t453.length : Int)
      · rw [if_pos c47] at H
        have c47b0 := eq_true c47
        have c47b1 : decide (1100 ≤ (t453.length : Int)) = true := decide_eq_true c47
        clear c47
        obtain ⟨y456, hy456⟩ : ∃ y_ : List Int, y_ = (t453.take (1100 : Int).toNat) := ⟨_, rfl⟩
        replace H : ((apportion_Spread.f k (Int.tmod a0 1000000000001) y456).bind fun bt459 => ((customsref02_Spread.f k (Int.tmod a0 1000000000001) y456).bind fun bt463 => (if bt459.2 = bt463.2 then ((customsref02_Same.f k bt459.1 bt463.1).bind fun t467 => (if t467 = true then ((customslaw03_awake.f k).bind fun t468 => (some t468)) else (some false))) else (some false)))) = some r := by first | (rw [hy456]; with_reducible exact H) | (have H2_ := (Option.bind_some _ _).symm.trans H; rw [hy456]; with_reducible exact H2_) | (have H2_ := (Option.bind_some _ _).symm.trans H; with_reducible exact H2_) | with_reducible exact H | (rw [hy456]; exact H) | exact H
        have Ny456 := Aside0.mk hy456
        clear hy456
        replace H := Option.bind_eq_some_iff.mp H
        obtain ⟨⟨t459, t460⟩, A480, H⟩ := H
        replace H : ((customsref02_Spread.f k (Int.tmod a0 1000000000001) y456).bind fun bt463 => (if t460 = bt463.2 then ((customsref02_Same.f k t459 bt463.1).bind fun t467 => (if t467 = true then ((customslaw03_awake.f k).bind fun t468 => (some t468)) else (some false))) else (some false))) = some r := H
        have A48 := Aside0.mk A480
        clear A480
        replace H := Option.bind_eq_some_iff.mp H
        obtain ⟨⟨t463, t464⟩, A490, H⟩ := H
        replace H : (if t460 = t464 then ((customsref02_Same.f k t459 t463).bind fun t467 => (if t467 = true then ((customslaw03_awake.f k).bind fun t468 => (some t468)) else (some false))) else (some false)) = some r := H
        have A49 := Aside0.mk A490
        clear A490
        by_cases c50 : t460 = t464
        · rw [if_pos c50] at H
          have c50b0 : (t460 == t464) = true := beq_iff_eq.mpr c50
          have c50b1 : (t460 != t464) = false := bne_eq_false_iff_eq.mpr c50
          clear c50
          replace H := Option.bind_eq_some_iff.mp H
          obtain ⟨t467, A510, H⟩ := H
          replace H : (if t467 = true then ((customslaw03_awake.f k).bind fun t468 => (some t468)) else (some false)) = some r := H
          have A51 := Aside0.mk A510
          clear A510
          by_cases c52 : t467 = true
          · subst c52
            have H1 : ((customslaw03_awake.f k).bind fun t468 => (some t468)) = some r := by rw [if_pos rfl] at H; exact H
            clear H
            have H := H1
            clear H1
            replace H := Option.bind_eq_some_iff.mp H
            obtain ⟨t468, A530, H⟩ := H
            replace H : (some t468) = some r := H
            have A53 := Aside0.mk A530
            clear A530
            obtain rfl := Option.some.inj H
            go_enter Try.func9, Try.ntmps9
            go_wp2_with (first | ((with_reducible refine gate_callee (f := 11) rfl ?_); refine goesL_ (some 19) rfl rfl Try.func11 (by kernel_rfl) rfl #[.slice A1 l1.length c1, .bool a2] rfl (by (try simp only [List.map_toArray, List.map_cons, List.map_nil]); first | done | rfl | (simp only [List.length_drop, List.length_take]; rfl)) ?_; (with_reducible refine (customslaw03_weights.calls k (fun k_ => k_ < w.heap.size) _ _ l1 a2 t453 _ ?side1 A45.out).mono ?_); (case side1 => exact Kd.V_mk HC1.out (Kd.F_below (Kd.C_F (Kd.heap_int .i64) HR1.out) (by repeat (first | (with_reducible first | exact HB.out | apply below_alloc | apply pw_below_drewN | apply below_drew1) | exact HB.out)))); rintro e w54 ⟨v454, rfl, ho0, hb⟩; refine ⟨_, rfl, ?_⟩; have n0_ := Aside0.mk (Kd.R_lower (Kd.R_mono (ok' := fun k_ => True) ho0 (fun _ hk_ => trivial)) (below_size (by repeat (first | (with_reducible first | exact HB.out | apply below_alloc | apply pw_below_drewN | apply below_drew1) | exact HB.out)))); have n1_ := Aside0.mk (below_step (by repeat (first | (with_reducible first | exact HB.out | apply below_alloc | apply pw_below_drewN | apply below_drew1) | exact HB.out)) hb); clear HB; have HO455 := n0_; have HB := n1_; clear n0_ n1_; (try clear hb); (try clear hb2); (try clear hk); (try clear hi); (try clear ho0); obtain ⟨Ao55, co55, eo55⟩ := Kd.R_slice HO455.out; subst eo55; have q56 : (1100 : Int) ≤ ((t453.length : Int) : Int) := of_decide_eq_true (by first | (with_reducible assumption) | assumption); obtain ⟨i056, hi056, _, hsz56, _⟩ := info_parts info3; have hcut56 := cut_to (P := Try.prog) 22 3 .i64 Try.underlying22 hi056 Ao55 t453.length co55 1100 (by omega) q56 (Kd.R_reads' HO455.out).2.1; have hr56 := Kd.R_take (m := (1100 : Int).toNat) HO455.out (by omega); have hy56 : y456.length = (1100 : Int).toNat := (by rw [Ny456.out, List.length_take]; omega); rw [← Ny456.out] at hr56; rw [← hy56] at hr56 hcut56; clear hy56 hi056 hsz56 HO455; have HO458 := Aside0.mk hr56; clear hr56; replace q56 := eq_true q56) | ((with_reducible refine gate_callee (f := 18) rfl ?_); refine goesL_ (some 28) rfl rfl Try.func18 (by kernel_rfl) rfl #[.int .i64 (Int.tmod a0 1000000000001), .slice Ao55 y456.length co55] rfl (by (try simp only [List.map_toArray, List.map_cons, List.map_nil]); first | done | rfl | (simp only [List.length_drop, List.length_take]; rfl)) ?_; (with_reducible refine (apportion_Spread.calls k (Int.tmod a0 1000000000001) _ _ y456 t459 t460 _ ?side1 ?side2 A48.out).mono ?_); (case side1 => repeat (first | exact (Kd.R_reads' HO458.out).2.2 | (with_reducible refine Kd.C_alloc ?_ _) | (with_reducible refine Kd.C_drewN ?_ _) | (with_reducible refine Kd.C_drew ?_))); (case side2 => exact (Kd.R_reads' HO458.out).2.1); rintro e w57 ⟨v461, rfl, ho0, hb⟩; refine ⟨_, rfl, ?_⟩; have n0_ := Aside0.mk (Kd.R_elder' (by (with_reducible repeat (first | apply Kd.R_alloc | apply Kd.R_drewN | apply Kd.R_drew)); exact HO458.out) (Kd.R_base ho0) hb); have n1_ := Aside0.mk (Kd.R_lower (Kd.R_new' ho0 (Kd.R_lt (by (with_reducible repeat (first | apply Kd.R_alloc | apply Kd.R_drewN | apply Kd.R_drew)); exact HO458.out))) (below_size (by repeat (first | (with_reducible first | exact HB.out | apply below_alloc | apply pw_below_drewN | apply below_drew1) | exact HB.out)))); have n2_ := Aside0.mk (below_step (by repeat (first | (with_reducible first | exact HB.out | apply below_alloc | apply pw_below_drewN | apply below_drew1) | exact HB.out)) hb); clear HO458; clear HB; have HO458 := n0_; have HO462 := n1_; have HB := n2_; clear n0_ n1_ n2_; (try clear hb); (try clear hb2); (try clear hk); (try clear hi); (try clear ho0)) | ((with_reducible refine gate_callee (f := 19) rfl ?_); refine goesL_ (some 34) rfl rfl Try.func19 (by kernel_rfl) rfl #[.int .i64 (Int.tmod a0 1000000000001), .slice Ao55 y456.length co55] rfl (by (try simp only [List.map_toArray, List.map_cons, List.map_nil]); first | done | rfl | (simp only [List.length_drop, List.length_take]; rfl)) ?_; (with_reducible refine (customsref02_Spread.calls k (Int.tmod a0 1000000000001) _ _ y456 t463 t464 _ ?side1 ?side2 A49.out).mono ?_); (case side1 => repeat (first | exact (Kd.R_reads' HO458.out).2.2 | (with_reducible refine Kd.C_alloc ?_ _) | (with_reducible refine Kd.C_drewN ?_ _) | (with_reducible refine Kd.C_drew ?_))); (case side2 => exact (Kd.R_reads' HO458.out).2.1); rintro e w58 ⟨v465, rfl, ho0, hb⟩; refine ⟨_, rfl, ?_⟩; have n0_ := Aside0.mk (Kd.R_elder' (by (with_reducible repeat (first | apply Kd.R_alloc | apply Kd.R_drewN | apply Kd.R_drew)); exact HO458.out) (Kd.R_base ho0) hb); have n1_ := Aside0.mk (Kd.R_elder' (by (with_reducible repeat (first | apply Kd.R_alloc | apply Kd.R_drewN | apply Kd.R_drew)); exact HO462.out) (Kd.R_base ho0) hb); have n2_ := Aside0.mk (Kd.R_lower (Kd.R_new' (Kd.R_new' ho0 (Kd.R_lt (by (with_reducible repeat (first | apply Kd.R_alloc | apply Kd.R_drewN | apply Kd.R_drew)); exact HO458.out))) (Kd.R_lt (by (with_reducible repeat (first | apply Kd.R_alloc | apply Kd.R_drewN | apply Kd.R_drew)); exact HO462.out))) (below_size (by repeat (first | (with_reducible first | exact HB.out | apply below_alloc | apply pw_below_drewN | apply below_drew1) | exact HB.out)))); have n3_ := Aside0.mk (below_step (by repeat (first | (with_reducible first | exact HB.out | apply below_alloc | apply pw_below_drewN | apply below_drew1) | exact HB.out)) hb); clear HO458; clear HO462; clear HB; have HO458 := n0_; have HO462 := n1_; have HO466 := n2_; have HB := n3_; clear n0_ n1_ n2_ n3_; (try clear hb); (try clear hb2); (try clear hk); (try clear hi); (try clear ho0); obtain ⟨Ao59, co59, eo59⟩ := Kd.R_slice HO462.out; subst eo59; obtain ⟨Ao60, co60, eo60⟩ := Kd.R_slice HO466.out; subst eo60) | (go_at_call 14; (with_reducible refine (customsref02_Same.calls k _ _ t459 _ _ t463 true _ ?side1 ?side2 ?side3 ?side4 A51.out).mono ?_); (case side1 => repeat (first | exact (Kd.R_reads' HO462.out).2.2 | (with_reducible refine Kd.C_alloc ?_ _) | (with_reducible refine Kd.C_drewN ?_ _) | (with_reducible refine Kd.C_drew ?_))); (case side2 => exact (Kd.R_reads' HO462.out).2.1); (case side3 => repeat (first | exact (Kd.R_reads' HO466.out).2.2 | (with_reducible refine Kd.C_alloc ?_ _) | (with_reducible refine Kd.C_drewN ?_ _) | (with_reducible refine Kd.C_drew ?_))); (case side4 => exact (Kd.R_reads' HO466.out).2.1); rintro e w' ⟨rfl, ⟨nd, rfl⟩⟩) | (go_at_call 15; (with_reducible refine (customslaw03_awake.calls k  t468 _ A53.out).mono ?_); rintro e w61 ⟨rfl, hb⟩; have n0_ := Aside0.mk (Kd.R_below (by (with_reducible repeat (first | apply Kd.R_alloc | apply Kd.R_drewN | apply Kd.R_drew)); exact HO458.out) hb); have n1_ := Aside0.mk (Kd.R_below (by (with_reducible repeat (first | apply Kd.R_alloc | apply Kd.R_drewN | apply Kd.R_drew)); exact HO462.out) hb); have n2_ := Aside0.mk (Kd.R_below (by (with_reducible repeat (first | apply Kd.R_alloc | apply Kd.R_drewN | apply Kd.R_drew)); exact HO466.out) hb); have n3_ := Aside0.mk (below_step (by repeat (first | (with_reducible first | exact HB.out | apply below_alloc | apply pw_below_drewN | apply below_drew1) | exact HB.out)) hb); clear HO458; clear HO462; clear HO466; clear HB; have HO458 := n0_; have HO462 := n1_; have HO466 := n2_; have HB := n3_; clear n0_ n1_ n2_ n3_; (try clear hb); (try clear hb2); (try clear hk); (try clear hi)))
            go_ret
            exact ⟨by first | rfl | (simp [errW_none, errW_some] <;> rfl) | (simp [*, errW_none, errW_some] <;> rfl) | (simp (disch := first | assumption | omega) only [Int.tdiv_eq_ediv_of_nonneg, Int.tmod_eq_emod_of_nonneg]; rfl), by repeat (first | (with_reducible first | exact HB.out | apply below_alloc | apply pw_below_drewN | apply below_drew1) | exact HB.out)⟩
          · replace c52 := Bool.eq_false_iff.mpr c52
            subst c52
            have H1 : (some false) = some r := by rw [if_neg (show ¬ (false = true) by decide)] at H; exact H
            clear H
            have H := H1
            clear H1
            obtain rfl := Option.some.inj H
            go_enter Try.func9, Try.ntmps9
            go_wp2_with (first | ((with_reducible refine gate_callee (f := 11) rfl ?_); refine goesL_ (some 19) rfl rfl Try.func11 (by kernel_rfl) rfl #[.slice A1 l1.length c1, .bool a2] rfl (by (try simp only [List.map_toArray, List.map_cons, List.map_nil]); first | done | rfl | (simp only [List.length_drop, List.length_take]; rfl)) ?_; (with_reducible refine (customslaw03_weights.calls k (fun k_ => k_ < w.heap.size) _ _ l1 a2 t453 _ ?side1 A45.out).mono ?_); (case side1 => exact Kd.V_mk HC1.out (Kd.F_below (Kd.C_F (Kd.heap_int .i64) HR1.out) (by repeat (first | (with_reducible first | exact HB.out | apply below_alloc | apply pw_below_drewN | apply below_drew1) | exact HB.out)))); rintro e w62 ⟨v454, rfl, ho0, hb⟩; refine ⟨_, rfl, ?_⟩; have n0_ := Aside0.mk (Kd.R_lower (Kd.R_mono (ok' := fun k_ => True) ho0 (fun _ hk_ => trivial)) (below_size (by repeat (first | (with_reducible first | exact HB.out | apply below_alloc | apply pw_below_drewN | apply below_drew1) | exact HB.out)))); have n1_ := Aside0.mk (below_step (by repeat (first | (with_reducible first | exact HB.out | apply below_alloc | apply pw_below_drewN | apply below_drew1) | exact HB.out)) hb); clear HB; have HO455 := n0_; have HB := n1_; clear n0_ n1_; (try clear hb); (try clear hb2); (try clear hk); (try clear hi); (try clear ho0); obtain ⟨Ao63, co63, eo63⟩ := Kd.R_slice HO455.out; subst eo63; have q64 : (1100 : Int) ≤ ((t453.length : Int) : Int) := of_decide_eq_true (by first | (with_reducible assumption) | assumption); obtain ⟨i064, hi064, _, hsz64, _⟩ := info_parts info3; have hcut64 := cut_to (P := Try.prog) 22 3 .i64 Try.underlying22 hi064 Ao63 t453.length co63 1100 (by omega) q64 (Kd.R_reads' HO455.out).2.1; have hr64 := Kd.R_take (m := (1100 : Int).toNat) HO455.out (by omega); have hy64 : y456.length = (1100 : Int).toNat := (by rw [Ny456.out, List.length_take]; omega); rw [← Ny456.out] at hr64; rw [← hy64] at hr64 hcut64; clear hy64 hi064 hsz64 HO455; have HO458 := Aside0.mk hr64; clear hr64; replace q64 := eq_true q64) | ((with_reducible refine gate_callee (f := 18) rfl ?_); refine goesL_ (some 28) rfl rfl Try.func18 (by kernel_rfl) rfl #[.int .i64 (Int.tmod a0 1000000000001), .slice Ao63 y456.length co63] rfl (by (try simp only [List.map_toArray, List.map_cons, List.map_nil]); first | done | rfl | (simp only [List.length_drop, List.length_take]; rfl)) ?_; (with_reducible refine (apportion_Spread.calls k (Int.tmod a0 1000000000001) _ _ y456 t459 t460 _ ?side1 ?side2 A48.out).mono ?_); (case side1 => repeat (first | exact (Kd.R_reads' HO458.out).2.2 | (with_reducible refine Kd.C_alloc ?_ _) | (with_reducible refine Kd.C_drewN ?_ _) | (with_reducible refine Kd.C_drew ?_))); (case side2 => exact (Kd.R_reads' HO458.out).2.1); rintro e w65 ⟨v461, rfl, ho0, hb⟩; refine ⟨_, rfl, ?_⟩; have n0_ := Aside0.mk (Kd.R_elder' (by (with_reducible repeat (first | apply Kd.R_alloc | apply Kd.R_drewN | apply Kd.R_drew)); exact HO458.out) (Kd.R_base ho0) hb); have n1_ := Aside0.mk (Kd.R_lower (Kd.R_new' ho0 (Kd.R_lt (by (with_reducible repeat (first | apply Kd.R_alloc | apply Kd.R_drewN | apply Kd.R_drew)); exact HO458.out))) (below_size (by repeat (first | (with_reducible first | exact HB.out | apply below_alloc | apply pw_below_drewN | apply below_drew1) | exact HB.out)))); have n2_ := Aside0.mk (below_step (by repeat (first | (with_reducible first | exact HB.out | apply below_alloc | apply pw_below_drewN | apply below_drew1) | exact HB.out)) hb); clear HO458; clear HB; have HO458 := n0_; have HO462 := n1_; have HB := n2_; clear n0_ n1_ n2_; (try clear hb); (try clear hb2); (try clear hk); (try clear hi); (try clear ho0)) | ((with_reducible refine gate_callee (f := 19) rfl ?_); refine goesL_ (some 34) rfl rfl Try.func19 (by kernel_rfl) rfl #[.int .i64 (Int.tmod a0 1000000000001), .slice Ao63 y456.length co63] rfl (by (try simp only [List.map_toArray, List.map_cons, List.map_nil]); first | done | rfl | (simp only [List.length_drop, List.length_take]; rfl)) ?_; (with_reducible refine (customsref02_Spread.calls k (Int.tmod a0 1000000000001) _ _ y456 t463 t464 _ ?side1 ?side2 A49.out).mono ?_); (case side1 => repeat (first | exact (Kd.R_reads' HO458.out).2.2 | (with_reducible refine Kd.C_alloc ?_ _) | (with_reducible refine Kd.C_drewN ?_ _) | (with_reducible refine Kd.C_drew ?_))); (case side2 => exact (Kd.R_reads' HO458.out).2.1); rintro e w66 ⟨v465, rfl, ho0, hb⟩; refine ⟨_, rfl, ?_⟩; have n0_ := Aside0.mk (Kd.R_elder' (by (with_reducible repeat (first | apply Kd.R_alloc | apply Kd.R_drewN | apply Kd.R_drew)); exact HO458.out) (Kd.R_base ho0) hb); have n1_ := Aside0.mk (Kd.R_elder' (by (with_reducible repeat (first | apply Kd.R_alloc | apply Kd.R_drewN | apply Kd.R_drew)); exact HO462.out) (Kd.R_base ho0) hb); have n2_ := Aside0.mk (Kd.R_lower (Kd.R_new' (Kd.R_new' ho0 (Kd.R_lt (by (with_reducible repeat (first | apply Kd.R_alloc | apply Kd.R_drewN | apply Kd.R_drew)); exact HO458.out))) (Kd.R_lt (by (with_reducible repeat (first | apply Kd.R_alloc | apply Kd.R_drewN | apply Kd.R_drew)); exact HO462.out))) (below_size (by repeat (first | (with_reducible first | exact HB.out | apply below_alloc | apply pw_below_drewN | apply below_drew1) | exact HB.out)))); have n3_ := Aside0.mk (below_step (by repeat (first | (with_reducible first | exact HB.out | apply below_alloc | apply pw_below_drewN | apply below_drew1) | exact HB.out)) hb); clear HO458; clear HO462; clear HB; have HO458 := n0_; have HO462 := n1_; have HO466 := n2_; have HB := n3_; clear n0_ n1_ n2_ n3_; (try clear hb); (try clear hb2); (try clear hk); (try clear hi); (try clear ho0); obtain ⟨Ao67, co67, eo67⟩ := Kd.R_slice HO462.out; subst eo67; obtain ⟨Ao68, co68, eo68⟩ := Kd.R_slice HO466.out; subst eo68) | (go_at_call 14; (with_reducible refine (customsref02_Same.calls k _ _ t459 _ _ t463 false _ ?side1 ?side2 ?side3 ?side4 A51.out).mono ?_); (case side1 => repeat (first | exact (Kd.R_reads' HO462.out).2.2 | (with_reducible refine Kd.C_alloc ?_ _) | (with_reducible refine Kd.C_drewN ?_ _) | (with_reducible refine Kd.C_drew ?_))); (case side2 => exact (Kd.R_reads' HO462.out).2.1); (case side3 => repeat (first | exact (Kd.R_reads' HO466.out).2.2 | (with_reducible refine Kd.C_alloc ?_ _) | (with_reducible refine Kd.C_drewN ?_ _) | (with_reducible refine Kd.C_drew ?_))); (case side4 => exact (Kd.R_reads' HO466.out).2.1); rintro e w' ⟨rfl, ⟨nd, rfl⟩⟩))
            go_ret
            exact ⟨by first | rfl | (simp [errW_none, errW_some] <;> rfl) | (simp [*, errW_none, errW_some] <;> rfl) | (simp (disch := first | assumption | omega) only [Int.tdiv_eq_ediv_of_nonneg, Int.tmod_eq_emod_of_nonneg]; rfl), by repeat (first | (with_reducible first | exact HB.out | apply below_alloc | apply pw_below_drewN | apply below_drew1) | exact HB.out)⟩
        · rw [if_neg c50] at H
          have c50b0 : (t460 == t464) = false := beq_eq_false_iff_ne.mpr c50
          have c50b1 : (t460 != t464) = true := bne_iff_ne.mpr c50
          obtain rfl := Option.some.inj H
          go_enter Try.func9, Try.ntmps9
          go_wp2_with (first | ((with_reducible refine gate_callee (f := 11) rfl ?_); refine goesL_ (some 19) rfl rfl Try.func11 (by kernel_rfl) rfl #[.slice A1 l1.length c1, .bool a2] rfl (by (try simp only [List.map_toArray, List.map_cons, List.map_nil]); first | done | rfl | (simp only [List.length_drop, List.length_take]; rfl)) ?_; (with_reducible refine (customslaw03_weights.calls k (fun k_ => k_ < w.heap.size) _ _ l1 a2 t453 _ ?side1 A45.out).mono ?_); (case side1 => exact Kd.V_mk HC1.out (Kd.F_below (Kd.C_F (Kd.heap_int .i64) HR1.out) (by repeat (first | (with_reducible first | exact HB.out | apply below_alloc | apply pw_below_drewN | apply below_drew1) | exact HB.out)))); rintro e w69 ⟨v454, rfl, ho0, hb⟩; refine ⟨_, rfl, ?_⟩; have n0_ := Aside0.mk (Kd.R_lower (Kd.R_mono (ok' := fun k_ => True) ho0 (fun _ hk_ => trivial)) (below_size (by repeat (first | (with_reducible first | exact HB.out | apply below_alloc | apply pw_below_drewN | apply below_drew1) | exact HB.out)))); have n1_ := Aside0.mk (below_step (by repeat (first | (with_reducible first | exact HB.out | apply below_alloc | apply pw_below_drewN | apply below_drew1) | exact HB.out)) hb); clear HB; have HO455 := n0_; have HB := n1_; clear n0_ n1_; (try clear hb); (try clear hb2); (try clear hk); (try clear hi); (try clear ho0); obtain ⟨Ao70, co70, eo70⟩ := Kd.R_slice HO455.out; subst eo70; have q71 : (1100 : Int) ≤ ((t453.length : Int) : Int) := of_decide_eq_true (by first | (with_reducible assumption) | assumption); obtain ⟨i071, hi071, _, hsz71, _⟩ := info_parts info3; have hcut71 := cut_to (P := Try.prog) 22 3 .i64 Try.underlying22 hi071 Ao70 t453.length co70 1100 (by omega) q71 (Kd.R_reads' HO455.out).2.1; have hr71 := Kd.R_take (m := (1100 : Int).toNat) HO455.out (by omega); have hy71 : y456.length = (1100 : Int).toNat := (by rw [Ny456.out, List.length_take]; omega); rw [← Ny456.out] at hr71; rw [← hy71] at hr71 hcut71; clear hy71 hi071 hsz71 HO455; have HO458 := Aside0.mk hr71; clear hr71; replace q71 := eq_true q71) | ((with_reducible refine gate_callee (f := 18) rfl ?_); refine goesL_ (some 28) rfl rfl Try.func18 (by kernel_rfl) rfl #[.int .i64 (Int.tmod a0 1000000000001), .slice Ao70 y456.length co70] rfl (by (try simp only [List.map_toArray, List.map_cons, List.map_nil]); first | done | rfl | (simp only [List.length_drop, List.length_take]; rfl)) ?_; (with_reducible refine (apportion_Spread.calls k (Int.tmod a0 1000000000001) _ _ y456 t459 t460 _ ?side1 ?side2 A48.out).mono ?_); (case side1 => repeat (first | exact (Kd.R_reads' HO458.out).2.2 | (with_reducible refine Kd.C_alloc ?_ _) | (with_reducible refine Kd.C_drewN ?_ _) | (with_reducible refine Kd.C_drew ?_))); (case side2 => exact (Kd.R_reads' HO458.out).2.1); rintro e w72 ⟨v461, rfl, ho0, hb⟩; refine ⟨_, rfl, ?_⟩; have n0_ := Aside0.mk (Kd.R_elder' (by (with_reducible repeat (first | apply Kd.R_alloc | apply Kd.R_drewN | apply Kd.R_drew)); exact HO458.out) (Kd.R_base ho0) hb); have n1_ := Aside0.mk (Kd.R_lower (Kd.R_new' ho0 (Kd.R_lt (by (with_reducible repeat (first | apply Kd.R_alloc | apply Kd.R_drewN | apply Kd.R_drew)); exact HO458.out))) (below_size (by repeat (first | (with_reducible first | exact HB.out | apply below_alloc | apply pw_below_drewN | apply below_drew1) | exact HB.out)))); have n2_ := Aside0.mk (below_step (by repeat (first | (with_reducible first | exact HB.out | apply below_alloc | apply pw_below_drewN | apply below_drew1) | exact HB.out)) hb); clear HO458; clear HB; have HO458 := n0_; have HO462 := n1_; have HB := n2_; clear n0_ n1_ n2_; (try clear hb); (try clear hb2); (try clear hk); (try clear hi); (try clear ho0)) | ((with_reducible refine gate_callee (f := 19) rfl ?_); refine goesL_ (some 34) rfl rfl Try.func19 (by kernel_rfl) rfl #[.int .i64 (Int.tmod a0 1000000000001), .slice Ao70 y456.length co70] rfl (by (try simp only [List.map_toArray, List.map_cons, List.map_nil]); first | done | rfl | (simp only [List.length_drop, List.length_take]; rfl)) ?_; (with_reducible refine (customsref02_Spread.calls k (Int.tmod a0 1000000000001) _ _ y456 t463 t464 _ ?side1 ?side2 A49.out).mono ?_); (case side1 => repeat (first | exact (Kd.R_reads' HO458.out).2.2 | (with_reducible refine Kd.C_alloc ?_ _) | (with_reducible refine Kd.C_drewN ?_ _) | (with_reducible refine Kd.C_drew ?_))); (case side2 => exact (Kd.R_reads' HO458.out).2.1); rintro e w73 ⟨v465, rfl, ho0, hb⟩; refine ⟨_, rfl, ?_⟩; have n0_ := Aside0.mk (Kd.R_elder' (by (with_reducible repeat (first | apply Kd.R_alloc | apply Kd.R_drewN | apply Kd.R_drew)); exact HO458.out) (Kd.R_base ho0) hb); have n1_ := Aside0.mk (Kd.R_elder' (by (with_reducible repeat (first | apply Kd.R_alloc | apply Kd.R_drewN | apply Kd.R_drew)); exact HO462.out) (Kd.R_base ho0) hb); have n2_ := Aside0.mk (Kd.R_lower (Kd.R_new' (Kd.R_new' ho0 (Kd.R_lt (by (with_reducible repeat (first | apply Kd.R_alloc | apply Kd.R_drewN | apply Kd.R_drew)); exact HO458.out))) (Kd.R_lt (by (with_reducible repeat (first | apply Kd.R_alloc | apply Kd.R_drewN | apply Kd.R_drew)); exact HO462.out))) (below_size (by repeat (first | (with_reducible first | exact HB.out | apply below_alloc | apply pw_below_drewN | apply below_drew1) | exact HB.out)))); have n3_ := Aside0.mk (below_step (by repeat (first | (with_reducible first | exact HB.out | apply below_alloc | apply pw_below_drewN | apply below_drew1) | exact HB.out)) hb); clear HO458; clear HO462; clear HB; have HO458 := n0_; have HO462 := n1_; have HO466 := n2_; have HB := n3_; clear n0_ n1_ n2_ n3_; (try clear hb); (try clear hb2); (try clear hk); (try clear hi); (try clear ho0)))
          go_ret
          exact ⟨by first | rfl | (simp [errW_none, errW_some] <;> rfl) | (simp [*, errW_none, errW_some] <;> rfl) | (simp (disch := first | assumption | omega) only [Int.tdiv_eq_ediv_of_nonneg, Int.tmod_eq_emod_of_nonneg]; rfl), by repeat (first | (with_reducible first | exact HB.out | apply below_alloc | apply pw_below_drewN | apply below_drew1) | exact HB.out)⟩
      · rw [if_neg c47] at H
        exact absurd H (by simp)
    · rw [if_neg c46] at H
      have c46b0 : decide (1100 < (t453.length : Int)) = false := decide_eq_false c46
      have c46b1 : decide (1100 < t453.length) = false := decide_eq_false (by omega)
      clear c46
      replace H := Option.bind_eq_some_iff.mp H
      obtain ⟨⟨t469, t470⟩, A740, H⟩ := H
      replace H : ((customsref02_Spread.f k (Int.tmod a0 1000000000001) t453).bind fun bt473 => (if t470 = bt473.2 then ((customsref02_Same.f k t469 bt473.1).bind fun t477 => (if t477 = true then ((customslaw03_awake.f k).bind fun t478 => (some t478)) else (some false))) else (some false))) = some r := H
      have A74 := Aside0.mk A740
      clear A740
      replace H := Option.bind_eq_some_iff.mp H
      obtain ⟨⟨t473, t474⟩, A750, H⟩ := H
      replace H : (if t470 = t474 then ((customsref02_Same.f k t469 t473).bind fun t477 => (if t477 = true then ((customslaw03_awake.f k).bind fun t478 => (some t478)) else (some false))) else (some false)) = some r := H
      have A75 := Aside0.mk A750
      clear A750
      by_cases c76 : t470 = t474
      · rw [if_pos c76] at H
        have c76b0 : (t470 == t474) = true := beq_iff_eq.mpr c76
        have c76b1 : (t470 != t474) = false := bne_eq_false_iff_eq.mpr c76
        clear c76
        replace H := Option.bind_eq_some_iff.mp H
        obtain ⟨t477, A770, H⟩ := H
        replace H : (if t477 = true then ((customslaw03_awake.f k).bind fun t478 => (some t478)) else (some false)) = some r := H
        have A77 := Aside0.mk A770
        clear A770
        by_cases c78 : t477 = true
        · subst c78
          have H1 : ((customslaw03_awake.f k).bind fun t478 => (some t478)) = some r := by rw [if_pos rfl] at H; exact H
          clear H
          have H := H1
          clear H1
          replace H := Option.bind_eq_some_iff.mp H
          obtain ⟨t478, A790, H⟩ := H
          replace H : (some t478) = some r := H
          have A79 := Aside0.mk A790
          clear A790
          obtain rfl := Option.some.inj H
          go_enter Try.func9, Try.ntmps9
          go_wp2_with (first | ((with_reducible refine gate_callee (f := 11) rfl ?_); refine goesL_ (some 19) rfl rfl Try.func11 (by kernel_rfl) rfl #[.slice A1 l1.length c1, .bool a2] rfl (by (try simp only [List.map_toArray, List.map_cons, List.map_nil]); first | done | rfl | (simp only [List.length_drop, List.length_take]; rfl)) ?_; (with_reducible refine (customslaw03_weights.calls k (fun k_ => k_ < w.heap.size) _ _ l1 a2 t453 _ ?side1 A45.out).mono ?_); (case side1 => exact Kd.V_mk HC1.out (Kd.F_below (Kd.C_F (Kd.heap_int .i64) HR1.out) (by repeat (first | (with_reducible first | exact HB.out | apply below_alloc | apply pw_below_drewN | apply below_drew1) | exact HB.out)))); rintro e w80 ⟨v454, rfl, ho0, hb⟩; refine ⟨_, rfl, ?_⟩; have n0_ := Aside0.mk (Kd.R_lower (Kd.R_mono (ok' := fun k_ => True) ho0 (fun _ hk_ => trivial)) (below_size (by repeat (first | (with_reducible first | exact HB.out | apply below_alloc | apply pw_below_drewN | apply below_drew1) | exact HB.out)))); have n1_ := Aside0.mk (below_step (by repeat (first | (with_reducible first | exact HB.out | apply below_alloc | apply pw_below_drewN | apply below_drew1) | exact HB.out)) hb); clear HB; have HO455 := n0_; have HB := n1_; clear n0_ n1_; (try clear hb); (try clear hb2); (try clear hk); (try clear hi); (try clear ho0); obtain ⟨Ao81, co81, eo81⟩ := Kd.R_slice HO455.out; subst eo81) | ((with_reducible refine gate_callee (f := 18) rfl ?_); refine goesL_ (some 28) rfl rfl Try.func18 (by kernel_rfl) rfl #[.int .i64 (Int.tmod a0 1000000000001), .slice Ao81 t453.length co81] rfl (by (try simp only [List.map_toArray, List.map_cons, List.map_nil]); first | done | rfl | (simp only [List.length_drop, List.length_take]; rfl)) ?_; (with_reducible refine (apportion_Spread.calls k (Int.tmod a0 1000000000001) _ _ t453 t469 t470 _ ?side1 ?side2 A74.out).mono ?_); (case side1 => repeat (first | exact (Kd.R_reads' HO455.out).2.2 | (with_reducible refine Kd.C_alloc ?_ _) | (with_reducible refine Kd.C_drewN ?_ _) | (with_reducible refine Kd.C_drew ?_))); (case side2 => exact (Kd.R_reads' HO455.out).2.1); rintro e w82 ⟨v471, rfl, ho0, hb⟩; refine ⟨_, rfl, ?_⟩; have n0_ := Aside0.mk (Kd.R_elder' (by (with_reducible repeat (first | apply Kd.R_alloc | apply Kd.R_drewN | apply Kd.R_drew)); exact HO455.out) (Kd.R_base ho0) hb); have n1_ := Aside0.mk (Kd.R_lower (Kd.R_new' ho0 (Kd.R_lt (by (with_reducible repeat (first | apply Kd.R_alloc | apply Kd.R_drewN | apply Kd.R_drew)); exact HO455.out))) (below_size (by repeat (first | (with_reducible first | exact HB.out | apply below_alloc | apply pw_below_drewN | apply below_drew1) | exact HB.out)))); have n2_ := Aside0.mk (below_step (by repeat (first | (with_reducible first | exact HB.out | apply below_alloc | apply pw_below_drewN | apply below_drew1) | exact HB.out)) hb); clear HO455; clear HB; have HO455 := n0_; have HO472 := n1_; have HB := n2_; clear n0_ n1_ n2_; (try clear hb); (try clear hb2); (try clear hk); (try clear hi); (try clear ho0)) | ((with_reducible refine gate_callee (f := 19) rfl ?_); refine goesL_ (some 34) rfl rfl Try.func19 (by kernel_rfl) rfl #[.int .i64 (Int.tmod a0 1000000000001), .slice Ao81 t453.length co81] rfl (by (try simp only [List.map_toArray, List.map_cons, List.map_nil]); first | done | rfl | (simp only [List.length_drop, List.length_take]; rfl)) ?_; (with_reducible refine (customsref02_Spread.calls k (Int.tmod a0 1000000000001) _ _ t453 t473 t474 _ ?side1 ?side2 A75.out).mono ?_); (case side1 => repeat (first | exact (Kd.R_reads' HO455.out).2.2 | (with_reducible refine Kd.C_alloc ?_ _) | (with_reducible refine Kd.C_drewN ?_ _) | (with_reducible refine Kd.C_drew ?_))); (case side2 => exact (Kd.R_reads' HO455.out).2.1); rintro e w83 ⟨v475, rfl, ho0, hb⟩; refine ⟨_, rfl, ?_⟩; have n0_ := Aside0.mk (Kd.R_elder' (by (with_reducible repeat (first | apply Kd.R_alloc | apply Kd.R_drewN | apply Kd.R_drew)); exact HO455.out) (Kd.R_base ho0) hb); have n1_ := Aside0.mk (Kd.R_elder' (by (with_reducible repeat (first | apply Kd.R_alloc | apply Kd.R_drewN | apply Kd.R_drew)); exact HO472.out) (Kd.R_base ho0) hb); have n2_ := Aside0.mk (Kd.R_lower (Kd.R_new' (Kd.R_new' ho0 (Kd.R_lt (by (with_reducible repeat (first | apply Kd.R_alloc | apply Kd.R_drewN | apply Kd.R_drew)); exact HO455.out))) (Kd.R_lt (by (with_reducible repeat (first | apply Kd.R_alloc | apply Kd.R_drewN | apply Kd.R_drew)); exact HO472.out))) (below_size (by repeat (first | (with_reducible first | exact HB.out | apply below_alloc | apply pw_below_drewN | apply below_drew1) | exact HB.out)))); have n3_ := Aside0.mk (below_step (by repeat (first | (with_reducible first | exact HB.out | apply below_alloc | apply pw_below_drewN | apply below_drew1) | exact HB.out)) hb); clear HO455; clear HO472; clear HB; have HO455 := n0_; have HO472 := n1_; have HO476 := n2_; have HB := n3_; clear n0_ n1_ n2_ n3_; (try clear hb); (try clear hb2); (try clear hk); (try clear hi); (try clear ho0); obtain ⟨Ao84, co84, eo84⟩ := Kd.R_slice HO472.out; subst eo84; obtain ⟨Ao85, co85, eo85⟩ := Kd.R_slice HO476.out; subst eo85) | (go_at_call 14; (with_reducible refine (customsref02_Same.calls k _ _ t469 _ _ t473 true _ ?side1 ?side2 ?side3 ?side4 A77.out).mono ?_); (case side1 => repeat (first | exact (Kd.R_reads' HO472.out).2.2 | (with_reducible refine Kd.C_alloc ?_ _) | (with_reducible refine Kd.C_drewN ?_ _) | (with_reducible refine Kd.C_drew ?_))); (case side2 => exact (Kd.R_reads' HO472.out).2.1); (case side3 => repeat (first | exact (Kd.R_reads' HO476.out).2.2 | (with_reducible refine Kd.C_alloc ?_ _) | (with_reducible refine Kd.C_drewN ?_ _) | (with_reducible refine Kd.C_drew ?_))); (case side4 => exact (Kd.R_reads' HO476.out).2.1); rintro e w' ⟨rfl, ⟨nd, rfl⟩⟩) | (go_at_call 15; (with_reducible refine (customslaw03_awake.calls k  t478 _ A79.out).mono ?_); rintro e w86 ⟨rfl, hb⟩; have n0_ := Aside0.mk (Kd.R_below (by (with_reducible repeat (first | apply Kd.R_alloc | apply Kd.R_drewN | apply Kd.R_drew)); exact HO455.out) hb); have n1_ := Aside0.mk (Kd.R_below (by (with_reducible repeat (first | apply Kd.R_alloc | apply Kd.R_drewN | apply Kd.R_drew)); exact HO472.out) hb); have n2_ := Aside0.mk (Kd.R_below (by (with_reducible repeat (first | apply Kd.R_alloc | apply Kd.R_drewN | apply Kd.R_drew)); exact HO476.out) hb); have n3_ := Aside0.mk (below_step (by repeat (first | (with_reducible first | exact HB.out | apply below_alloc | apply pw_below_drewN | apply below_drew1) | exact HB.out)) hb); clear HO455; clear HO472; clear HO476; clear HB; have HO455 := n0_; have HO472 := n1_; have HO476 := n2_; have HB := n3_; clear n0_ n1_ n2_ n3_; (try clear hb); (try clear hb2); (try clear hk); (try clear hi)))
          go_ret
          exact ⟨by first | rfl | (simp [errW_none, errW_some] <;> rfl) | (simp [*, errW_none, errW_some] <;> rfl) | (simp (disch := first | assumption | omega) only [Int.tdiv_eq_ediv_of_nonneg, Int.tmod_eq_emod_of_nonneg]; rfl), by repeat (first | (with_reducible first | exact HB.out | apply below_alloc | apply pw_below_drewN | apply below_drew1) | exact HB.out)⟩
        · replace c78 := Bool.eq_false_iff.mpr c78
          subst c78
          have H1 : (some false) = some r := by rw [if_neg (show ¬ (false = true) by decide)] at H; exact H
          clear H
          have H := H1
          clear H1
          obtain rfl := Option.some.inj H
          go_enter Try.func9, Try.ntmps9
          go_wp2_with (first | ((with_reducible refine gate_callee (f := 11) rfl ?_); refine goesL_ (some 19) rfl rfl Try.func11 (by kernel_rfl) rfl #[.slice A1 l1.length c1, .bool a2] rfl (by (try simp only [List.map_toArray, List.map_cons, List.map_nil]); first | done | rfl | (simp only [List.length_drop, List.length_take]; rfl)) ?_; (with_reducible refine (customslaw03_weights.calls k (fun k_ => k_ < w.heap.size) _ _ l1 a2 t453 _ ?side1 A45.out).mono ?_); (case side1 => exact Kd.V_mk HC1.out (Kd.F_below (Kd.C_F (Kd.heap_int .i64) HR1.out) (by repeat (first | (with_reducible first | exact HB.out | apply below_alloc | apply pw_below_drewN | apply below_drew1) | exact HB.out)))); rintro e w87 ⟨v454, rfl, ho0, hb⟩; refine ⟨_, rfl, ?_⟩; have n0_ := Aside0.mk (Kd.R_lower (Kd.R_mono (ok' := fun k_ => True) ho0 (fun _ hk_ => trivial)) (below_size (by repeat (first | (with_reducible first | exact HB.out | apply below_alloc | apply pw_below_drewN | apply below_drew1) | exact HB.out)))); have n1_ := Aside0.mk (below_step (by repeat (first | (with_reducible first | exact HB.out | apply below_alloc | apply pw_below_drewN | apply below_drew1) | exact HB.out)) hb); clear HB; have HO455 := n0_; have HB := n1_; clear n0_ n1_; (try clear hb); (try clear hb2); (try clear hk); (try clear hi); (try clear ho0); obtain ⟨Ao88, co88, eo88⟩ := Kd.R_slice HO455.out; subst eo88) | ((with_reducible refine gate_callee (f := 18) rfl ?_); refine goesL_ (some 28) rfl rfl Try.func18 (by kernel_rfl) rfl #[.int .i64 (Int.tmod a0 1000000000001), .slice Ao88 t453.length co88] rfl (by (try simp only [List.map_toArray, List.map_cons, List.map_nil]); first | done | rfl | (simp only [List.length_drop, List.length_take]; rfl)) ?_; (with_reducible refine (apportion_Spread.calls k (Int.tmod a0 1000000000001) _ _ t453 t469 t470 _ ?side1 ?side2 A74.out).mono ?_); (case side1 => repeat (first | exact (Kd.R_reads' HO455.out).2.2 | (with_reducible refine Kd.C_alloc ?_ _) | (with_reducible refine Kd.C_drewN ?_ _) | (with_reducible refine Kd.C_drew ?_))); (case side2 => exact (Kd.R_reads' HO455.out).2.1); rintro e w89 ⟨v471, rfl, ho0, hb⟩; refine ⟨_, rfl, ?_⟩; have n0_ := Aside0.mk (Kd.R_elder' (by (with_reducible repeat (first | apply Kd.R_alloc | apply Kd.R_drewN | apply Kd.R_drew)); exact HO455.out) (Kd.R_base ho0) hb); have n1_ := Aside0.mk (Kd.R_lower (Kd.R_new' ho0 (Kd.R_lt (by (with_reducible repeat (first | apply Kd.R_alloc | apply Kd.R_drewN | apply Kd.R_drew)); exact HO455.out))) (below_size (by repeat (first | (with_reducible first | exact HB.out | apply below_alloc | apply pw_below_drewN | apply below_drew1) | exact HB.out)))); have n2_ := Aside0.mk (below_step (by repeat (first | (with_reducible first | exact HB.out | apply below_alloc | apply pw_below_drewN | apply below_drew1) | exact HB.out)) hb); clear HO455; clear HB; have HO455 := n0_; have HO472 := n1_; have HB := n2_; clear n0_ n1_ n2_; (try clear hb); (try clear hb2); (try clear hk); (try clear hi); (try clear ho0)) | ((with_reducible refine gate_callee (f := 19) rfl ?_); refine goesL_ (some 34) rfl rfl Try.func19 (by kernel_rfl) rfl #[.int .i64 (Int.tmod a0 1000000000001), .slice Ao88 t453.length co88] rfl (by (try simp only [List.map_toArray, List.map_cons, List.map_nil]); first | done | rfl | (simp only [List.length_drop, List.length_take]; rfl)) ?_; (with_reducible refine (customsref02_Spread.calls k (Int.tmod a0 1000000000001) _ _ t453 t473 t474 _ ?side1 ?side2 A75.out).mono ?_); (case side1 => repeat (first | exact (Kd.R_reads' HO455.out).2.2 | (with_reducible refine Kd.C_alloc ?_ _) | (with_reducible refine Kd.C_drewN ?_ _) | (with_reducible refine Kd.C_drew ?_))); (case side2 => exact (Kd.R_reads' HO455.out).2.1); rintro e w90 ⟨v475, rfl, ho0, hb⟩; refine ⟨_, rfl, ?_⟩; have n0_ := Aside0.mk (Kd.R_elder' (by (with_reducible repeat (first | apply Kd.R_alloc | apply Kd.R_drewN | apply Kd.R_drew)); exact HO455.out) (Kd.R_base ho0) hb); have n1_ := Aside0.mk (Kd.R_elder' (by (with_reducible repeat (first | apply Kd.R_alloc | apply Kd.R_drewN | apply Kd.R_drew)); exact HO472.out) (Kd.R_base ho0) hb); have n2_ := Aside0.mk (Kd.R_lower (Kd.R_new' (Kd.R_new' ho0 (Kd.R_lt (by (with_reducible repeat (first | apply Kd.R_alloc | apply Kd.R_drewN | apply Kd.R_drew)); exact HO455.out))) (Kd.R_lt (by (with_reducible repeat (first | apply Kd.R_alloc | apply Kd.R_drewN | apply Kd.R_drew)); exact HO472.out))) (below_size (by repeat (first | (with_reducible first | exact HB.out | apply below_alloc | apply pw_below_drewN | apply below_drew1) | exact HB.out)))); have n3_ := Aside0.mk (below_step (by repeat (first | (with_reducible first | exact HB.out | apply below_alloc | apply pw_below_drewN | apply below_drew1) | exact HB.out)) hb); clear HO455; clear HO472; clear HB; have HO455 := n0_; have HO472 := n1_; have HO476 := n2_; have HB := n3_; clear n0_ n1_ n2_ n3_; (try clear hb); (try clear hb2); (try clear hk); (try clear hi); (try clear ho0); obtain ⟨Ao91, co91, eo91⟩ := Kd.R_slice HO472.out; subst eo91; obtain ⟨Ao92, co92, eo92⟩ := Kd.R_slice HO476.out; subst eo92) | (go_at_call 14; (with_reducible refine (customsref02_Same.calls k _ _ t469 _ _ t473 false _ ?side1 ?side2 ?side3 ?side4 A77.out).mono ?_); (case side1 => repeat (first | exact (Kd.R_reads' HO472.out).2.2 | (with_reducible refine Kd.C_alloc ?_ _) | (with_reducible refine Kd.C_drewN ?_ _) | (with_reducible refine Kd.C_drew ?_))); (case side2 => exact (Kd.R_reads' HO472.out).2.1); (case side3 => repeat (first | exact (Kd.R_reads' HO476.out).2.2 | (with_reducible refine Kd.C_alloc ?_ _) | (with_reducible refine Kd.C_drewN ?_ _) | (with_reducible refine Kd.C_drew ?_))); (case side4 => exact (Kd.R_reads' HO476.out).2.1); rintro e w' ⟨rfl, ⟨nd, rfl⟩⟩))
          go_ret
          exact ⟨by first | rfl | (simp [errW_none, errW_some] <;> rfl) | (simp [*, errW_none, errW_some] <;> rfl) | (simp (disch := first | assumption | omega) only [Int.tdiv_eq_ediv_of_nonneg, Int.tmod_eq_emod_of_nonneg]; rfl), by repeat (first | (with_reducible first | exact HB.out | apply below_alloc | apply pw_below_drewN | apply below_drew1) | exact HB.out)⟩
      · rw [if_neg c76] at H
        have c76b0 : (t470 == t474) = false := beq_eq_false_iff_ne.mpr c76
        have c76b1 : (t470 != t474) = true := bne_iff_ne.mpr c76
        obtain rfl := Option.some.inj H
        go_enter Try.func9, Try.ntmps9
        go_wp2_with (first | ((with_reducible refine gate_callee (f := 11) rfl ?_); refine goesL_ (some 19) rfl rfl Try.func11 (by kernel_rfl) rfl #[.slice A1 l1.length c1, .bool a2] rfl (by (try simp only [List.map_toArray, List.map_cons, List.map_nil]); first | done | rfl | (simp only [List.length_drop, List.length_take]; rfl)) ?_; (with_reducible refine (customslaw03_weights.calls k (fun k_ => k_ < w.heap.size) _ _ l1 a2 t453 _ ?side1 A45.out).mono ?_); (case side1 => exact Kd.V_mk HC1.out (Kd.F_below (Kd.C_F (Kd.heap_int .i64) HR1.out) (by repeat (first | (with_reducible first | exact HB.out | apply below_alloc | apply pw_below_drewN | apply below_drew1) | exact HB.out)))); rintro e w93 ⟨v454, rfl, ho0, hb⟩; refine ⟨_, rfl, ?_⟩; have n0_ := Aside0.mk (Kd.R_lower (Kd.R_mono (ok' := fun k_ => True) ho0 (fun _ hk_ => trivial)) (below_size (by repeat (first | (with_reducible first | exact HB.out | apply below_alloc | apply pw_below_drewN | apply below_drew1) | exact HB.out)))); have n1_ := Aside0.mk (below_step (by repeat (first | (with_reducible first | exact HB.out | apply below_alloc | apply pw_below_drewN | apply below_drew1) | exact HB.out)) hb); clear HB; have HO455 := n0_; have HB := n1_; clear n0_ n1_; (try clear hb); (try clear hb2); (try clear hk); (try clear hi); (try clear ho0); obtain ⟨Ao94, co94, eo94⟩ := Kd.R_slice HO455.out; subst eo94) | ((with_reducible refine gate_callee (f := 18) rfl ?_); refine goesL_ (some 28) rfl rfl Try.func18 (by kernel_rfl) rfl #[.int .i64 (Int.tmod a0 1000000000001), .slice Ao94 t453.length co94] rfl (by (try simp only [List.map_toArray, List.map_cons, List.map_nil]); first | done | rfl | (simp only [List.length_drop, List.length_take]; rfl)) ?_; (with_reducible refine (apportion_Spread.calls k (Int.tmod a0 1000000000001) _ _ t453 t469 t470 _ ?side1 ?side2 A74.out).mono ?_); (case side1 => repeat (first | exact (Kd.R_reads' HO455.out).2.2 | (with_reducible refine Kd.C_alloc ?_ _) | (with_reducible refine Kd.C_drewN ?_ _) | (with_reducible refine Kd.C_drew ?_))); (case side2 => exact (Kd.R_reads' HO455.out).2.1); rintro e w95 ⟨v471, rfl, ho0, hb⟩; refine ⟨_, rfl, ?_⟩; have n0_ := Aside0.mk (Kd.R_elder' (by (with_reducible repeat (first | apply Kd.R_alloc | apply Kd.R_drewN | apply Kd.R_drew)); exact HO455.out) (Kd.R_base ho0) hb); have n1_ := Aside0.mk (Kd.R_lower (Kd.R_new' ho0 (Kd.R_lt (by (with_reducible repeat (first | apply Kd.R_alloc | apply Kd.R_drewN | apply Kd.R_drew)); exact HO455.out))) (below_size (by repeat (first | (with_reducible first | exact HB.out | apply below_alloc | apply pw_below_drewN | apply below_drew1) | exact HB.out)))); have n2_ := Aside0.mk (below_step (by repeat (first | (with_reducible first | exact HB.out | apply below_alloc | apply pw_below_drewN | apply below_drew1) | exact HB.out)) hb); clear HO455; clear HB; have HO455 := n0_; have HO472 := n1_; have HB := n2_; clear n0_ n1_ n2_; (try clear hb); (try clear hb2); (try clear hk); (try clear hi); (try clear ho0)) | ((with_reducible refine gate_callee (f := 19) rfl ?_); refine goesL_ (some 34) rfl rfl Try.func19 (by kernel_rfl) rfl #[.int .i64 (Int.tmod a0 1000000000001), .slice Ao94 t453.length co94] rfl (by (try simp only [List.map_toArray, List.map_cons, List.map_nil]); first | done | rfl | (simp only [List.length_drop, List.length_take]; rfl)) ?_; (with_reducible refine (customsref02_Spread.calls k (Int.tmod a0 1000000000001) _ _ t453 t473 t474 _ ?side1 ?side2 A75.out).mono ?_); (case side1 => repeat (first | exact (Kd.R_reads' HO455.out).2.2 | (with_reducible refine Kd.C_alloc ?_ _) | (with_reducible refine Kd.C_drewN ?_ _) | (with_reducible refine Kd.C_drew ?_))); (case side2 => exact (Kd.R_reads' HO455.out).2.1); rintro e w96 ⟨v475, rfl, ho0, hb⟩; refine ⟨_, rfl, ?_⟩; have n0_ := Aside0.mk (Kd.R_elder' (by (with_reducible repeat (first | apply Kd.R_alloc | apply Kd.R_drewN | apply Kd.R_drew)); exact HO455.out) (Kd.R_base ho0) hb); have n1_ := Aside0.mk (Kd.R_elder' (by (with_reducible repeat (first | apply Kd.R_alloc | apply Kd.R_drewN | apply Kd.R_drew)); exact HO472.out) (Kd.R_base ho0) hb); have n2_ := Aside0.mk (Kd.R_lower (Kd.R_new' (Kd.R_new' ho0 (Kd.R_lt (by (with_reducible repeat (first | apply Kd.R_alloc | apply Kd.R_drewN | apply Kd.R_drew)); exact HO455.out))) (Kd.R_lt (by (with_reducible repeat (first | apply Kd.R_alloc | apply Kd.R_drewN | apply Kd.R_drew)); exact HO472.out))) (below_size (by repeat (first | (with_reducible first | exact HB.out | apply below_alloc | apply pw_below_drewN | apply below_drew1) | exact HB.out)))); have n3_ := Aside0.mk (below_step (by repeat (first | (with_reducible first | exact HB.out | apply below_alloc | apply pw_below_drewN | apply below_drew1) | exact HB.out)) hb); clear HO455; clear HO472; clear HB; have HO455 := n0_; have HO472 := n1_; have HO476 := n2_; have HB := n3_; clear n0_ n1_ n2_ n3_; (try clear hb); (try clear hb2); (try clear hk); (try clear hi); (try clear ho0)))
        go_ret
        exact ⟨by first | rfl | (simp [errW_none, errW_some] <;> rfl) | (simp [*, errW_none, errW_some] <;> rfl) | (simp (disch := first | assumption | omega) only [Int.tdiv_eq_ediv_of_nonneg, Int.tmod_eq_emod_of_nonneg]; rfl), by repeat (first | (with_reducible first | exact HB.out | apply below_alloc | apply pw_below_drewN | apply below_drew1) | exact HB.out)⟩

/-- THE ONE PURE STATEMENT of customslaw03_SpreadSign: yours. -/
def customslaw03_SpreadSign.Pure : Prop := ∀ (a0 : Int) (l1 : List Int) (a2 : Bool) (a3 : Bool), (Lit.int .i64 a0).wf = true → l1.length ≤ maxLen → l1.length * 8 ≤ 140737488351232 → (∀ x ∈ l1, (Lit.int .i64 x).wf = true) → ∃ k, customslaw03_SpreadSign.f k a0 l1 a2 a3 = some true
theorem customslaw03_SpreadSign.walk (P : customslaw03_SpreadSign.Pure) (a0 : Int) (a1 : Option Addr) (len1 cap1 : Nat) (z1 : List Int) (a2 : Bool) (a3 : Bool) (w : World) (w0 : (Lit.int .i64 a0).wf = true) (w1 : (a1 = none ∧ len1 = 0 ∧ cap1 = 0 ∧ z1 = []) ∨ ∃ x, a1 = some x ∧ len1 ≤ cap1 ∧ cap1 ≤ maxLen ∧ z1.length = cap1 ∧ (∀ i, i < z1.length → w.cell? (x.add i) = some (.int .i64 (z1.getD i 0))) ∧ ∀ n ∈ z1, (Lit.int .i64 n).wf = true) (y1 : len1 * 8 ≤ 140737488351232) :
    Calls Try.prog 9 #[.int .i64 a0, .slice a1 len1 cap1, .bool a2, .bool a3] w fun e w' => e = .returned (.bool true) ∧ Below w.heap.size w w' := by
  obtain ⟨l1, rfl, hr1, hm1, hw1, hc1⟩ := ReadsInt.ofRowC w1
  obtain ⟨k, h⟩ := P a0 l1 a2 a3 w0 hm1 y1 hw1
  refine (customslaw03_SpreadSign.calls k a0 _ _ l1 a2 a3 true w (Kd.C_of_reads (d := (0 : Int)) (h1 := fun _ => rfl) hr1) hc1 h).mono ?_
  rintro e w' ⟨rfl, hd⟩
  exact ⟨rfl, hd⟩

end Go.Proofs.Ytidonenkdibaoaa.PX
end
section
namespace Go.Proofs.Ytidonenkdibaoaa.PX
open Go.RowKit Go.Proofs.YtidonenkdibaoaaW.PrintWords Go.Proofs.YtidonenkdibaoaaW.PrintLast Go.Proofs.YtidonenkdibaoaaW.PrintMore
set_option linter.unusedVariables false
set_option linter.unusedSimpArgs false

theorem Sw.inj {n : Nat} {A A' : Nat → Nat} (h : Sw 0 n A A') (hi : ∀ p q, p < n → q < n → A p = A q → p = q) : ∀ p q, p < n → q < n → A' p = A' q → p = q := by
  induction h with
  | refl => exact hi
  | step i j _ h1 h2 ih =>
    intro p q hp hq he
    unfold swp at he
    by_cases a : p = i
    · rw [if_pos a] at he
      by_cases b : q = i
      · omega
      · rw [if_neg b] at he
        by_cases c : q = j
        · rw [if_pos c] at he; have := ih j i (by omega) (by omega) he; omega
        · rw [if_neg c] at he; have := ih j q (by omega) hq he; omega
    · rw [if_neg a] at he
      by_cases d : p = j
      · rw [if_pos d] at he
        by_cases b : q = i
        · rw [if_pos b] at he; have := ih i j (by omega) (by omega) he; omega
        · rw [if_neg b] at he
          by_cases c : q = j
          · omega
          · rw [if_neg c] at he; have := ih i q (by omega) hq he; omega
      · rw [if_neg d] at he
        by_cases b : q = i
        · rw [if_pos b] at he; have := ih p j hp (by omega) he; omega
        · rw [if_neg b] at he
          by_cases c : q = j
          · rw [if_pos c] at he; have := ih p i hp (by omega) he; omega
          · rw [if_neg c] at he; exact ih p q hp hq he
theorem ltR_total (R : Nat → Int) {x y : Nat} (h : x ≠ y) : ltR R x y ∨ ltR R y x := by unfold ltR; omega
theorem ltR_asymm {R : Nat → Int} {x y : Nat} (h : ltR R x y) : ¬ ltR R y x := by unfold ltR at *; omega
theorem min_at (R : Nat → Int) (A : Nat → Nat) (m : Nat) (d : Nat) (hi : ∀ p q, p < m + d + 1 → q < m + d + 1 → A p = A q → p = q) : ∃ q, m ≤ q ∧ q < m + d + 1 ∧ ∀ r, m ≤ r → r < m + d + 1 → r ≠ q → ltR R (A q) (A r) := by
  induction d with
  | zero => exact ⟨m, Nat.le_refl _, by omega, fun r h1 h2 h3 => absurd h3 (by omega)⟩
  | succ d ih =>
    obtain ⟨q, h1, h2, h3⟩ := ih (fun p q hp hq => hi p q (by omega) (by omega))
    have hne : A q ≠ A (m + d + 1) := fun e => by have := hi q (m + d + 1) (by omega) (by omega) e; omega
    rcases ltR_total R hne with c | c
    · refine ⟨q, h1, by omega, fun r r1 r2 r3 => ?_⟩
      by_cases e : r = m + d + 1
      · subst e; exact c
      · exact h3 r r1 (by omega) r3
    · refine ⟨m + d + 1, by omega, by omega, fun r r1 r2 r3 => ?_⟩
      by_cases e : r = q
      · subst e; exact c
      · exact c.trans (h3 r r1 (by omega) e)
theorem sorted_to (R : Nat → Int) (n : Nat) : ∀ m, m ≤ n → ∃ A, Sw 0 n (fun p => p) A ∧ ∀ p q, p < m → p < q → q < n → ltR R (A p) (A q) := by
  intro m
  induction m with
  | zero => exact fun _ => ⟨_, .refl _, fun p q hp => absurd hp (by omega)⟩
  | succ m ih =>
    intro hm
    obtain ⟨A, hw, hs⟩ := ih (by omega)
    have hinj := hw.inj (fun p q _ _ e => e)
    obtain ⟨q, h1, h2, h3⟩ := min_at R A m (n - m - 1) (fun p q hp hq => hinj p q (by omega) (by omega))
    refine ⟨swp A m q, .step m q hw (by omega) (by omega), fun p r hp hr hn => ?_⟩
    by_cases e : p = m
    · subst e
      rw [swp_is1 A rfl]
      by_cases e2 : r = q
      · rw [swp_is2 A (by omega) e2]; exact h3 p (by omega) (by omega) (by omega)
      · rw [swp_is3 A (by omega) e2]; exact h3 r (by omega) (by omega) e2
    · rw [swp_is3 A e (by omega)]
      by_cases e1 : r = m
      · rw [swp_is1 A e1]; exact hs p q (by omega) (by omega) (by omega)
      · by_cases e2 : r = q
        · rw [swp_is2 A e1 e2]; exact hs p m (by omega) (by omega) (by omega)
        · rw [swp_is3 A e1 e2]; exact hs p r (by omega) hr hn
theorem sorted_ex (R : Nat → Int) (n : Nat) : ∃ A, Sw 0 n (fun p => p) A ∧ Sorted R A 0 n := by
  obtain ⟨A, hw, hs⟩ := sorted_to R n n (Nat.le_refl _)
  exact ⟨A, hw, fun p q _ h1 h2 => hs p q (by omega) h1 h2⟩
theorem rank_ex (R : Nat → Int) (n t : Nat) (ht : t < n) : ∃ i, i < n ∧ rank R n i = t := by
  obtain ⟨A, hw, hs⟩ := sorted_ex R n
  exact ⟨A t, hw.all (n := n) (Q := fun v => v < n) (Nat.le_refl _) (fun k hk => hk) t ht, rank_at (fun _ _ => rfl) hw hs t ht⟩
theorem rank_iff (R : Nat → Int) (n i j : Nat) (hi : i < n) (hj : j < n) : rank R n i < rank R n j ↔ ltR R i j := by
  obtain ⟨A, hw, hs⟩ := sorted_ex R n
  obtain ⟨p, hp, rfl⟩ := sw_onto (fun _ _ => rfl) hw i hi
  obtain ⟨q, hq, rfl⟩ := sw_onto (fun _ _ => rfl) hw j hj
  rw [rank_at (fun _ _ => rfl) hw hs p hp, rank_at (fun _ _ => rfl) hw hs q hq]
  refine ⟨fun h => hs p q (Nat.zero_le _) h hq, fun h => ?_⟩
  by_cases c : p < q
  · exact c
  · by_cases e : p = q
    · subst e; exact absurd h (by unfold ltR; omega)
    · exact absurd h (ltR_asymm (hs q p (Nat.zero_le _) (by omega) hp))
theorem rank_inj (R : Nat → Int) (n i j : Nat) (hi : i < n) (hj : j < n) (h : rank R n i = rank R n j) : i = j := by
  by_cases e : i = j
  · exact e
  · rcases ltR_total R e with c | c
    · have := (rank_iff R n i j hi hj).mpr c; omega
    · have := (rank_iff R n j i hj hi).mpr c; omega
end Go.Proofs.Ytidonenkdibaoaa.PX
end
section
namespace Go.Proofs.Ytidonenkdibaoaa.PX
open Go.RowKit Go.Proofs.YtidonenkdibaoaaW.PrintWords Go.Proofs.YtidonenkdibaoaaW.PrintLast Go.Proofs.YtidonenkdibaoaaW.PrintMore
set_option linter.unusedVariables false
set_option linter.unusedSimpArgs false

theorem Ev.up {α : Type} {g : Nat → Option α} {r : α} (h : Ev (fun k => g (k + 1)) r) : Ev g r := Ev.step (fun _ => rfl) h
theorem Ev.cst {α : Type} {x : Option α} {r : α} (h : x = some r) : Ev (fun _ => x) r := ⟨0, fun _ _ => h⟩
theorem Ev.as {α : Type} {g : Nat → Option α} {r s : α} (h : Ev g r) (e : r = s) : Ev g s := e ▸ h
def U64 (x : Int) : Prop := 0 ≤ x ∧ x < 18446744073709551616
def I64 (x : Int) : Prop := -9223372036854775808 ≤ x ∧ x < 9223372036854775808
theorem w64_in {x : Int} (h0 : 0 ≤ x) (h1 : x < 18446744073709551616) : IntKind.u64.wrap x = x := by
  rw [IntKind.wrap_u64]; omega
theorem wrap64_of {x : Int} (h0 : -9223372036854775808 ≤ x) (h1 : x < 9223372036854775808) : wrap64 x = x := by
  unfold wrap64; omega
theorem and32 {x : Int} (h0 : 0 ≤ x) (h1 : x < 18446744073709551616) : Go.bits .and .u64 x 4294967295 = x % 4294967296 := by
  have := bits_mask .u64 64 (by decide) (fun n a b => w64_in a (by simpa using b)) 32 (by decide) x h0 (by simpa using h1)
  simpa using this
theorem and1 {x : Int} (h0 : 0 ≤ x) (h1 : x < 18446744073709551616) : Go.bits .and .u64 x 1 = x % 2 := by
  have := bits_mask .u64 64 (by decide) (fun n a b => w64_in a (by simpa using b)) 1 (by decide) x h0 (by simpa using h1)
  simpa using this
theorem i64_and63 {x : Int} (h0 : 0 ≤ x) (h1 : x < 4611686018427387904) : Go.bits .and .i64 x 63 = x % 64 := by
  have := bits_mask .i64 62 (by decide) (fun n a b => by rw [IntKind.wrap_i64]; have : (2:Int)^62 = 4611686018427387904 := by decide
                                                         omega) 6 (by decide) x h0 (by simpa using h1)
  simpa using this
theorem or_join {x y : Int} (s : Nat) (hx0 : 0 ≤ x) (hx : x % 2 ^ s = 0) (hx1 : x < 18446744073709551616) (hy0 : 0 ≤ y) (hy : y < 2 ^ s) (hy1 : y < 18446744073709551616) : Go.bits .or .u64 x y = x + y :=
  bits_join .u64 64 (by decide) (fun n a b => w64_in a (by simpa using b)) s x y hx0 hx (by simpa using hx1) hy0 hy (by simpa using hy1)

/- the number of bits -/
def lenTab : ByteArray := ⟨#[0, 1, 2, 2, 3, 3, 3, 3, 4, 4, 4, 4, 4, 4, 4, 4, 5, 5, 5, 5, 5, 5, 5, 5, 5, 5, 5, 5, 5, 5, 5, 5, 6, 6, 6, 6, 6, 6, 6, 6, 6, 6, 6, 6, 6, 6, 6, 6, 6, 6, 6, 6, 6, 6, 6, 6, 6, 6, 6, 6, 6, 6, 6, 6, 7, 7, 7, 7, 7, 7, 7, 7, 7, 7, 7, 7, 7, 7, 7, 7, 7, 7, 7, 7, 7, 7, 7, 7, 7, 7, 7, 7, 7, 7, 7, 7, 7, 7, 7, 7, 7, 7, 7, 7, 7, 7, 7, 7, 7, 7, 7, 7, 7, 7, 7, 7, 7, 7, 7, 7, 7, 7, 7, 7, 7, 7, 7, 7, 8, 8, 8, 8, 8, 8, 8, 8, 8, 8, 8, 8, 8, 8, 8, 8, 8, 8, 8, 8, 8, 8, 8, 8, 8, 8, 8, 8, 8, 8, 8, 8, 8, 8, 8, 8, 8, 8, 8, 8, 8, 8, 8, 8, 8, 8, 8, 8, 8, 8, 8, 8, 8, 8, 8, 8, 8, 8, 8, 8, 8, 8, 8, 8, 8, 8, 8, 8, 8, 8, 8, 8, 8, 8, 8, 8, 8, 8, 8, 8, 8, 8, 8, 8, 8, 8, 8, 8, 8, 8, 8, 8, 8, 8, 8, 8, 8, 8, 8, 8, 8, 8, 8, 8, 8, 8, 8, 8, 8, 8, 8, 8, 8, 8, 8, 8, 8, 8, 8, 8, 8, 8, 8, 8, 8, 8, 8, 8]⟩
def lenOk (x : Int) (n : Nat) : Bool := decide (n ≤ 8) && decide (x < 2 ^ n) && (decide (x = 0) || decide ((2 : Int) ^ n ≤ 2 * x))
theorem lenTab_all : (List.range 256).all (fun i => lenOk (i : Int) (bt lenTab i).toNat && decide (0 ≤ bt lenTab i)) = true := by decide +kernel
theorem lenTab_at (y : Int) (h0 : 0 ≤ y) (h1 : y < 256) : ∃ n : Nat, bt lenTab y = n ∧ lenOk y n = true := by
  obtain ⟨i, rfl⟩ := Int.eq_ofNat_of_zero_le h0
  have h := List.all_eq_true.mp lenTab_all i (List.mem_range.mpr (by omega))
  simp only [Bool.and_eq_true, decide_eq_true_eq] at h
  exact ⟨(bt lenTab i).toNat, by omega, h.1⟩
def bitsOf (x : Int) (n : Nat) : Prop := n ≤ 64 ∧ x < 2 ^ n ∧ (x = 0 ∨ (2 : Int) ^ n ≤ 2 * x)
theorem len_scaled {x y : Int} (s m : Nat) (c : Int) (hc : c = 2 ^ m) (hs : s + m ≤ 64) (hx : 0 ≤ x) (hy : x / c = y) (hy0 : 1 ≤ y) {n : Nat} (h : bitsOf y n) (hn : n + m ≤ 64) : bitsOf x (n + m) := by
  obtain ⟨h1, h2, h3⟩ := h
  have hcp : 0 < c := by rw [hc]; exact Int.pow_pos (by decide)
  refine ⟨hn, ?_, .inr ?_⟩
  · rw [Int.pow_add, ← hc]
    have : x < (y + 1) * c := by rw [← hy]; exact Int.lt_ediv_add_one_mul_self _ hcp
    have : (y + 1) * c ≤ 2 ^ n * c := Int.mul_le_mul_of_nonneg_right (by omega) (by omega)
    omega
  · rw [Int.pow_add, ← hc]
    have h4 : (2 : Int) ^ n ≤ 2 * y := by rcases h3 with h | h <;> omega
    have : (2 : Int) ^ n * c ≤ 2 * y * c := Int.mul_le_mul_of_nonneg_right h4 (by omega)
    have : y * c ≤ x := by rw [← hy]; exact Int.ediv_mul_le _ (by omega)
    rw [Int.mul_assoc] at *
    omega
theorem lenOk_bits {y : Int} {n : Nat} (h : lenOk y n = true) : n ≤ 8 ∧ bitsOf y n := by
  unfold lenOk at h
  simp only [Bool.and_eq_true, Bool.or_eq_true, decide_eq_true_eq] at h
  exact ⟨h.1.1, by omega, h.1.2, h.2⟩
set_option maxRecDepth 100000 in
theorem j0_eq (k : Nat) (x0 x2 : Int) : bits_Len64.j0 (k + 1) x0 x2 = if x0 ≥ 65536 then (if (x0 / 65536) ≥ 256 then (if 0 ≤ (((x0 / 65536) / 256) % 256) then (if (((x0 / 65536) / 256) % 256) < 256 then (some (wrap64 ((wrap64 ((wrap64 (x2 + 16)) + 8)) + (wrap64 (bt lenTab (((x0 / 65536) / 256) % 256)))))) else (none)) else (none)) else (if 0 ≤ ((x0 / 65536) % 256) then (if ((x0 / 65536) % 256) < 256 then (some (wrap64 ((wrap64 (x2 + 16)) + (wrap64 (bt lenTab ((x0 / 65536) % 256)))))) else (none)) else (none))) else (if x0 ≥ 256 then (if 0 ≤ ((x0 / 256) % 256) then (if ((x0 / 256) % 256) < 256 then (some (wrap64 ((wrap64 (x2 + 8)) + (wrap64 (bt lenTab ((x0 / 256) % 256)))))) else (none)) else (none)) else (if 0 ≤ ((x0) % 256) then (if ((x0) % 256) < 256 then (some (wrap64 (x2 + (wrap64 (bt lenTab ((x0) % 256)))))) else (none)) else (none))) := rfl
theorem len_j0 (y z : Int) (h0 : 0 ≤ y) (h1 : y < 4294967296) (hz0 : 0 ≤ z) (hz : z ≤ 1000) :
    ∃ n : Nat, n ≤ 32 ∧ bitsOf y n ∧ ∀ k, bits_Len64.j0 (k + 1) y z = some (z + n) := by
  by_cases c1 : y ≥ 65536
  · by_cases c2 : y / 65536 ≥ 256
    · obtain ⟨n, hn, ho⟩ := lenTab_at ((y / 65536) / 256 % 256) (by omega) (by omega)
      obtain ⟨h8, hb⟩ := lenOk_bits ho
      refine ⟨n + 24, by omega, len_scaled 24 24 16777216 (by decide) (by omega) h0 (y := y / 65536 / 256 % 256) (by omega) (by omega) hb (by omega), fun k => ?_⟩
      rw [j0_eq, if_pos c1, if_pos c2, if_pos (by omega), if_pos (by omega), hn]
      exact congrArg some (by unfold wrap64; omega)
    · obtain ⟨n, hn, ho⟩ := lenTab_at ((y / 65536) % 256) (by omega) (by omega)
      obtain ⟨h8, hb⟩ := lenOk_bits ho
      refine ⟨n + 16, by omega, len_scaled 16 16 65536 (by decide) (by omega) h0 (y := y / 65536 % 256) (by omega) (by omega) hb (by omega), fun k => ?_⟩
      rw [j0_eq, if_pos c1, if_neg c2, if_pos (by omega), if_pos (by omega), hn]
      exact congrArg some (by unfold wrap64; omega)
  · by_cases c2 : y ≥ 256
    · obtain ⟨n, hn, ho⟩ := lenTab_at ((y / 256) % 256) (by omega) (by omega)
      obtain ⟨h8, hb⟩ := lenOk_bits ho
      refine ⟨n + 8, by omega, len_scaled 8 8 256 (by decide) (by omega) h0 (y := y / 256 % 256) (by omega) (by omega) hb (by omega), fun k => ?_⟩
      rw [j0_eq, if_neg c1, if_pos c2, if_pos (by omega), if_pos (by omega), hn]
      exact congrArg some (by unfold wrap64; omega)
    · obtain ⟨n, hn, ho⟩ := lenTab_at (y % 256) (by omega) (by omega)
      obtain ⟨h8, hb⟩ := lenOk_bits ho
      have e : y % 256 = y := by omega
      rw [e] at hb
      refine ⟨n, by omega, hb, fun k => ?_⟩
      rw [j0_eq, if_neg c1, if_neg c2, if_pos (by omega), if_pos (by omega), hn]
      exact congrArg some (by unfold wrap64; omega)
theorem len64 (x : Int) (h : U64 x) : ∃ n : Nat, bitsOf x n ∧ ∀ k, bits_Len64.f (k + 1) x = some (n : Int) := by
  obtain ⟨h0, h1⟩ := h
  by_cases c : x ≥ 4294967296
  · obtain ⟨n, hn, hb, hf⟩ := len_j0 (x / 4294967296) 32 (by omega) (by omega) (by omega) (by omega)
    refine ⟨n + 32, len_scaled 32 32 4294967296 (by decide) (by omega) h0 rfl (by omega) hb (by omega), fun k => ?_⟩
    unfold bits_Len64.f
    rw [if_pos c, hf k]; congr 1; omega
  · obtain ⟨n, hn, hb, hf⟩ := len_j0 x 0 h0 (by omega) (by omega) (by omega)
    refine ⟨n, hb, fun k => ?_⟩
    unfold bits_Len64.f
    rw [if_neg c, hf k]; congr 1; omega
/- how far to shift y so that its highest bit is set -/
theorem lead64 (y : Int) (h0 : 0 < y) (h1 : y < 18446744073709551616) : ∃ s : Nat, s ≤ 63 ∧ 9223372036854775808 ≤ y * 2 ^ s ∧ y * 2 ^ s < 18446744073709551616 ∧ ∀ k, bits_LeadingZeros64.f (k + 1) y = some (s : Int) := by
  obtain ⟨n, ⟨hn, hlt, hge⟩, hf⟩ := len64 y ⟨by omega, h1⟩
  have hn0 : n ≠ 0 := by rintro rfl; simp at hlt; omega
  have hge' : (2 : Int) ^ n ≤ 2 * y := by rcases hge with h | h <;> omega
  have e : (2 : Int) ^ n * 2 ^ (64 - n) = 18446744073709551616 := by rw [← Int.pow_add, show n + (64 - n) = 64 from by omega]; decide
  have hp : 0 < (2 : Int) ^ (64 - n) := Int.pow_pos (by decide)
  refine ⟨64 - n, by omega, ?_, ?_, fun k => ?_⟩
  · have := Int.mul_le_mul_of_nonneg_right hge' (show 0 ≤ (2 : Int) ^ (64 - n) by omega)
    rw [Int.mul_assoc] at this; omega
  · have := Int.mul_lt_mul_of_pos_right hlt hp
    omega
  · unfold bits_LeadingZeros64.f
    rw [hf k]; simp only [Option.bind_some]; rw [wrap64_of (by omega) (by omega)]; congr 1; omega
end Go.Proofs.Ytidonenkdibaoaa.PX
end
