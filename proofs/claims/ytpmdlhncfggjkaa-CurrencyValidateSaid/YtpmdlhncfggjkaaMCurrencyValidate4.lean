/- Texts of this session joined by a small program: plain Lean functions with the answers of Go functions of this seat, proofs that the machine's calls come to them, and plain laws over them that the claim CurrencyValidate uses. -/
import Derived.Test.YtpmdlhncfggjkaaProg
import Derived.RegionTactic
import Derived.Maps.Own
import Derived.Maps.OwnOps
import Derived.Maps.OwnSet
import Derived.Laws.Externs
import Derived.WalkLawsBesides
import Derived.Deep.RegionLaw
import Derived.IntWalk
import Derived.Below
import Derived.Deep.Draws
import Derived.Deep.AppendLies
import Derived.Maps.AppendAt
import Derived.OwnWalk
import Derived.Laws.BytesArg
import Derived.Laws.MakeOwn
import Derived.Laws.OwnMore
import Derived.Deep.OwnRows
import Derived.Tactics
import Derived.Lib.ConvBytes
import Derived.Laws.Slices
import Derived.WalkKit
import Derived.KernelRfl
import Derived.RowKit3
import Derived.Deep.LoopGhost
import Derived.Deep.QuietTactic
import Derived.BigQuiet
import Derived.WideLaws
import Derived.Deep.DeepCutAuto
import Derived.Deep.CutBlock
import Derived.Deep.RegionHeld3
import Derived.Laws.Rows
import Derived.Lib.AppendStr
import Derived.ArgAppend
import Derived.Laws.IdiomCopy
import Derived.OrdersHeld
import Derived.Laws.BitsLemmas
import Derived.RowKit
import Derived.Test.YtpmdlhncfggjkaaWWords
import Derived.Test.YtpmdlhncfggjkaaWLast
import Derived.Test.YtpmdlhncfggjkaaWTab
import Derived.Test.YtpmdlhncfggjkaaWFour
import Derived.Test.YtpmdlhncfggjkaaWQPut
import Derived.Test.YtpmdlhncfggjkaaWApart
import Derived.Test.YtpmdlhncfggjkaaWArr
import Derived.Test.YtpmdlhncfggjkaaWZeros
import Derived.Test.YtpmdlhncfggjkaaWFoot
import Derived.Test.YtpmdlhncfggjkaaWKept
import Derived.Test.YtpmdlhncfggjkaaWShare
import Derived.Test.YtpmdlhncfggjkaaWN
import Derived.Test.YtpmdlhncfggjkaaWFootNe
import Derived.Test.YtpmdlhncfggjkaaWAt
import Derived.Test.YtpmdlhncfggjkaaWEqStruct
import Derived.Test.YtpmdlhncfggjkaaWRepsOne
import Derived.Test.YtpmdlhncfggjkaaWInv
import Derived.Test.YtpmdlhncfggjkaaWInvWords
import Derived.Test.YtpmdlhncfggjkaaWGuard
import Derived.Test.YtpmdlhncfggjkaaWNEv
import Derived.Test.YtpmdlhncfggjkaaWMore
import Derived.Laws.Bits64
import Derived.Sort.Walk0
import Derived.Deep.Slices
import Derived.SizedLaws
import Derived.ChangeArms
import Derived.Test.YtpmdlhncfggjkaaMCurrencyValidate3
section
namespace Go.Proofs.Ytpmdlhncfggjkaa.PX
open Go.RowKit Go.Proofs.YtpmdlhncfggjkaaW.PrintWords Go.Proofs.YtpmdlhncfggjkaaW.PrintLast Go.Proofs.YtpmdlhncfggjkaaW.PrintMore
attribute [local go_sem] max2_int min2_int max_two min_two max_three min_three max_four min_four   -- for this text's walks alone
set_option linter.unusedVariables false
set_option linter.unusedSimpArgs false

/-! ### customsref01_Add: function 39 -/
def customsref01_Add.f (a0_0 : Int) (a0_1 : Int) (a1_0 : Int) (a1_1 : Int) : Option (Int × Int × Bool) := if (IntKind.u64.wrap (a0_1 + a1_1)) < a0_1 then (if (IntKind.u64.wrap (a0_0 + a1_0)) < a0_0 then (some (IntKind.u64.wrap ((IntKind.u64.wrap (a0_0 + a1_0)) + 1), IntKind.u64.wrap (a0_1 + a1_1), true)) else (some (IntKind.u64.wrap ((IntKind.u64.wrap (a0_0 + a1_0)) + 1), IntKind.u64.wrap (a0_1 + a1_1), ((IntKind.u64.wrap ((IntKind.u64.wrap (a0_0 + a1_0)) + 1)) == 0)))) else (some (IntKind.u64.wrap (a0_0 + a1_0), IntKind.u64.wrap (a0_1 + a1_1), decide ((IntKind.u64.wrap (a0_0 + a1_0)) < a0_0)))
set_option maxHeartbeats 8000000 in
set_option maxRecDepth 100000 in
theorem customsref01_Add.calls (a0_0 : Int) (a0_1 : Int) (a1_0 : Int) (a1_1 : Int) (r1 : Int) (r2 : Int) (r3 : Bool) (w : World) (h : customsref01_Add.f a0_0 a0_1 a1_0 a1_1 = some (r1, r2, r3)) :
    Calls Try.prog 39 #[.agg #[.int .u64 a0_0, .int .u64 a0_1], .agg #[.int .u64 a1_0, .int .u64 a1_1]] w fun e w' => e = .returned (.tuple #[.agg #[.int .u64 r1, .int .u64 r2], .bool r3]) ∧ Below w.heap.size w w' := by
  have hu66 := Try.underlying66
  have HB := Aside0.mk (Below.refl w.heap.size w)
  have H : (if (IntKind.u64.wrap (a0_1 + a1_1)) < a0_1 then (if (IntKind.u64.wrap (a0_0 + a1_0)) < a0_0 then (some (IntKind.u64.wrap ((IntKind.u64.wrap (a0_0 + a1_0)) + 1), IntKind.u64.wrap (a0_1 + a1_1), true)) else (some (IntKind.u64.wrap ((IntKind.u64.wrap (a0_0 + a1_0)) + 1), IntKind.u64.wrap (a0_1 + a1_1), ((IntKind.u64.wrap ((IntKind.u64.wrap (a0_0 + a1_0)) + 1)) == 0)))) else (some (IntKind.u64.wrap (a0_0 + a1_0), IntKind.u64.wrap (a0_1 + a1_1), decide ((IntKind.u64.wrap (a0_0 + a1_0)) < a0_0)))) = some (r1, r2, r3) := h
  clear h
  by_cases c3 : (IntKind.u64.wrap (a0_1 + a1_1)) < a0_1
  · rw [if_pos c3] at H
    have c3b0 : decide ((IntKind.u64.wrap (a0_1 + a1_1)) < a0_1) = true := decide_eq_true c3
    clear c3
    by_cases c4 : (IntKind.u64.wrap (a0_0 + a1_0)) < a0_0
    · rw [if_pos c4] at H
      have c4b0 : decide ((IntKind.u64.wrap (a0_0 + a1_0)) < a0_0) = true := decide_eq_true c4
      clear c4
      simp only [Option.some.injEq, Prod.mk.injEq] at H
      obtain ⟨rfl, rfl, rfl⟩ := H
      go_enter Try.func39, Try.ntmps39
      go_wp2_with (first | ((with_reducible refine gate_dst (N := 2) rfl ?_); refine box_event ?hg (N := 2) ?hd (cs := #[.int .u64 a0_0, .int .u64 a0_1]) (t := 66) ?hr ?_; (case hd => rfl); (case hg => rfl); (case hr => first | (go_simp; done) | (go_simp; rfl)); intro gb233 hg w5 hbox hb; have n0_ := Aside0.mk (below_step (by repeat (first | (with_reducible first | exact HB.out | apply below_alloc | apply pw_below_drewN | apply below_drew1) | exact HB.out)) hb); have n1_ := Aside0.mk (hbox); have n2_ := Aside0.mk ((by rw [hg]; exact (below_size (by repeat (first | (with_reducible first | exact HB.out | apply below_alloc | apply pw_below_drewN | apply below_drew1) | exact HB.out))) : w.heap.size ≤ gb233)); have n3_ := Aside0.mk ((by rw [hg]; exact (below_size (by repeat (first | (with_reducible first | exact HB.out | apply below_alloc | apply pw_below_drewN | apply below_drew1) | exact HB.out))) : w.heap.size ≤ gb233)); clear HB; have HB := n0_; have BK233 := n1_; have GW233 := n2_; have GE233 := n3_; clear n0_ n1_ n2_ n3_; clear hb hbox hg) | ((with_reducible refine gate_dst (N := 3) rfl ?_); refine box_event ?hg (N := 3) ?hd (cs := #[.int .u64 a1_0, .int .u64 a1_1]) (t := 66) ?hr ?_; (case hd => rfl); (case hg => rfl); (case hr => first | (go_simp; done) | (go_simp; rfl)); intro gb234 hg w6 hbox hb; have n0_ := Aside0.mk (blk_below (g := gb233) (o := .cells #[.int .u64 a0_0, .int .u64 a0_1] 66 (0, 0)) (by (with_reducible repeat (first | refine blk_drewN ?_ _ | refine blk_drew ?_ | refine blk_alloc ?_ _)); exact BK233.out) hb); have n1_ := Aside0.mk (below_step (by repeat (first | (with_reducible first | exact HB.out | apply below_alloc | apply pw_below_drewN | apply below_drew1 | refine below_set ?_ GE233.out) | exact HB.out)) hb); have n2_ := Aside0.mk (hbox); have n3_ := Aside0.mk ((by rw [hg]; exact (below_size (by repeat (first | (with_reducible first | exact HB.out | apply below_alloc | apply pw_below_drewN | apply below_drew1 | refine below_set ?_ GE233.out) | exact HB.out))) : w.heap.size ≤ gb234)); have n4_ := Aside0.mk ((by rw [hg]; exact (below_size (by repeat (first | (with_reducible first | exact HB.out | apply below_alloc | apply pw_below_drewN | apply below_drew1 | refine below_set ?_ GE233.out) | exact HB.out))) : w.heap.size ≤ gb234)); have n5_ := Aside0.mk ((by rw [hg]; exact Nat.ne_of_lt (blk_lt (g := gb233) (o := .cells #[.int .u64 a0_0, .int .u64 a0_1] 66 (0, 0)) (by (with_reducible repeat (first | refine blk_drewN ?_ _ | refine blk_drew ?_ | refine blk_alloc ?_ _)); exact BK233.out)) : gb233 ≠ gb234)); have n6_ := Aside0.mk ((by rw [hg]; exact Nat.ne_of_gt (blk_lt (g := gb233) (o := .cells #[.int .u64 a0_0, .int .u64 a0_1] 66 (0, 0)) (by (with_reducible repeat (first | refine blk_drewN ?_ _ | refine blk_drew ?_ | refine blk_alloc ?_ _)); exact BK233.out)) : gb234 ≠ gb233)); clear BK233; clear HB; have BK233 := n0_; have HB := n1_; have BK234 := n2_; have GW234 := n3_; have GE234 := n4_; have NB233_234 := n5_; have NB234_233 := n6_; clear n0_ n1_ n2_ n3_ n4_ n5_ n6_; clear hb hbox hg) | ((with_reducible refine gate_dst (N := 4) rfl ?_); refine box_event ?hg (N := 4) ?hd (cs := #[.int .u64 0, .int .u64 0]) (t := 66) ?hr ?_; (case hd => rfl); (case hg => rfl); (case hr => first | (go_simp; done) | (go_simp; rfl)); intro gb235 hg w7 hbox hb; have n0_ := Aside0.mk (blk_below (g := gb233) (o := .cells #[.int .u64 a0_0, .int .u64 a0_1] 66 (0, 0)) (by (with_reducible repeat (first | refine blk_drewN ?_ _ | refine blk_drew ?_ | refine blk_alloc ?_ _)); exact BK233.out) hb); have n1_ := Aside0.mk (blk_below (g := gb234) (o := .cells #[.int .u64 a1_0, .int .u64 a1_1] 66 (0, 0)) (by (with_reducible repeat (first | refine blk_drewN ?_ _ | refine blk_drew ?_ | refine blk_alloc ?_ _)); exact BK234.out) hb); have n2_ := Aside0.mk (below_step (by repeat (first | (with_reducible first | exact HB.out | apply below_alloc | apply pw_below_drewN | apply below_drew1 | refine below_set ?_ GE233.out | refine below_set ?_ GE234.out) | exact HB.out)) hb); have n3_ := Aside0.mk (hbox); have n4_ := Aside0.mk ((by rw [hg]; exact (below_size (by repeat (first | (with_reducible first | exact HB.out | apply below_alloc | apply pw_below_drewN | apply below_drew1 | refine below_set ?_ GE233.out | refine below_set ?_ GE234.out) | exact HB.out))) : w.heap.size ≤ gb235)); have n5_ := Aside0.mk ((by rw [hg]; exact (below_size (by repeat (first | (with_reducible first | exact HB.out | apply below_alloc | apply pw_below_drewN | apply below_drew1 | refine below_set ?_ GE233.out | refine below_set ?_ GE234.out) | exact HB.out))) : w.heap.size ≤ gb235)); have n6_ := Aside0.mk ((by rw [hg]; exact Nat.ne_of_lt (blk_lt (g := gb233) (o := .cells #[.int .u64 a0_0, .int .u64 a0_1] 66 (0, 0)) (by (with_reducible repeat (first | refine blk_drewN ?_ _ | refine blk_drew ?_ | refine blk_alloc ?_ _)); exact BK233.out)) : gb233 ≠ gb235)); have n7_ := Aside0.mk ((by rw [hg]; exact Nat.ne_of_gt (blk_lt (g := gb233) (o := .cells #[.int .u64 a0_0, .int .u64 a0_1] 66 (0, 0)) (by (with_reducible repeat (first | refine blk_drewN ?_ _ | refine blk_drew ?_ | refine blk_alloc ?_ _)); exact BK233.out)) : gb235 ≠ gb233)); have n8_ := Aside0.mk ((by rw [hg]; exact Nat.ne_of_lt (blk_lt (g := gb234) (o := .cells #[.int .u64 a1_0, .int .u64 a1_1] 66 (0, 0)) (by (with_reducible repeat (first | refine blk_drewN ?_ _ | refine blk_drew ?_ | refine blk_alloc ?_ _)); exact BK234.out)) : gb234 ≠ gb235)); have n9_ := Aside0.mk ((by rw [hg]; exact Nat.ne_of_gt (blk_lt (g := gb234) (o := .cells #[.int .u64 a1_0, .int .u64 a1_1] 66 (0, 0)) (by (with_reducible repeat (first | refine blk_drewN ?_ _ | refine blk_drew ?_ | refine blk_alloc ?_ _)); exact BK234.out)) : gb235 ≠ gb234)); clear BK233; clear BK234; clear HB; have BK233 := n0_; have BK234 := n1_; have HB := n2_; have BK235 := n3_; have GW235 := n4_; have GE235 := n5_; have NB233_235 := n6_; have NB235_233 := n7_; have NB234_235 := n8_; have NB235_234 := n9_; clear n0_ n1_ n2_ n3_ n4_ n5_ n6_ n7_ n8_ n9_; clear hb hbox hg; have hnb8 := NB233_234.out; have hnc8 := NB234_233.out; have hnb9 := NB233_235.out; have hnc9 := NB235_233.out; have hcz10_0 : w7.cell? ⟨gb233, 0, none⟩ = some (.int .u64 a0_0) := (blk_cell BK233.out 0).trans rfl; have hcz10_1 : w7.cell? ⟨gb233, 1, none⟩ = some (.int .u64 a0_1) := (blk_cell BK233.out 1).trans rfl; have hfz10_0 := blk_frozen BK233.out 0; have hfz10_1 := blk_frozen BK233.out 1; have hnb11 := NB234_235.out; have hnc11 := NB235_234.out; have hcz12_0 : w7.cell? ⟨gb234, 0, none⟩ = some (.int .u64 a1_0) := (blk_cell BK234.out 0).trans rfl; have hcz12_1 : w7.cell? ⟨gb234, 1, none⟩ = some (.int .u64 a1_1) := (blk_cell BK234.out 1).trans rfl; have hfz12_0 := blk_frozen BK234.out 0; have hfz12_1 := blk_frozen BK234.out 1; have hcz13_0 : w7.cell? ⟨gb235, 0, none⟩ = some (.int .u64 0) := (blk_cell BK235.out 0).trans rfl; have hcz13_1 : w7.cell? ⟨gb235, 1, none⟩ = some (.int .u64 0) := (blk_cell BK235.out 1).trans rfl; have hfz13_0 := blk_frozen BK235.out 0; have hfz13_1 := blk_frozen BK235.out 1))
      repeat (go_quiet (first | ((with_reducible refine gate_dst (N := 2) rfl ?_); refine box_event ?hg (N := 2) ?hd (cs := #[.int .u64 a0_0, .int .u64 a0_1]) (t := 66) ?hr ?_; (case hd => rfl); (case hg => rfl); (case hr => first | (go_simp; done) | (go_simp; rfl)); intro gb233 hg w5 hbox hb; have n0_ := Aside0.mk (below_step (by repeat (first | (with_reducible first | exact HB.out | apply below_alloc | apply pw_below_drewN | apply below_drew1) | exact HB.out)) hb); have n1_ := Aside0.mk (hbox); have n2_ := Aside0.mk ((by rw [hg]; exact (below_size (by repeat (first | (with_reducible first | exact HB.out | apply below_alloc | apply pw_below_drewN | apply below_drew1) | exact HB.out))) : w.heap.size ≤ gb233)); have n3_ := Aside0.mk ((by rw [hg]; exact (below_size (by repeat (first | (with_reducible first | exact HB.out | apply below_alloc | apply pw_below_drewN | apply below_drew1) | exact HB.out))) : w.heap.size ≤ gb233)); clear HB; have HB := n0_; have BK233 := n1_; have GW233 := n2_; have GE233 := n3_; clear n0_ n1_ n2_ n3_; clear hb hbox hg) | ((with_reducible refine gate_dst (N := 3) rfl ?_); refine box_event ?hg (N := 3) ?hd (cs := #[.int .u64 a1_0, .int .u64 a1_1]) (t := 66) ?hr ?_; (case hd => rfl); (case hg => rfl); (case hr => first | (go_simp; done) | (go_simp; rfl)); intro gb234 hg w6 hbox hb; have n0_ := Aside0.mk (blk_below (g := gb233) (o := .cells #[.int .u64 a0_0, .int .u64 a0_1] 66 (0, 0)) (by (with_reducible repeat (first | refine blk_drewN ?_ _ | refine blk_drew ?_ | refine blk_alloc ?_ _)); exact BK233.out) hb); have n1_ := Aside0.mk (below_step (by repeat (first | (with_reducible first | exact HB.out | apply below_alloc | apply pw_below_drewN | apply below_drew1 | refine below_set ?_ GE233.out) | exact HB.out)) hb); have n2_ := Aside0.mk (hbox); have n3_ := Aside0.mk ((by rw [hg]; exact (below_size (by repeat (first | (with_reducible first | exact HB.out | apply below_alloc | apply pw_below_drewN | apply below_drew1 | refine below_set ?_ GE233.out) | exact HB.out))) : w.heap.size ≤ gb234)); have n4_ := Aside0.mk ((by rw [hg]; exact (below_size (by repeat (first | (with_reducible first | exact HB.out | apply below_alloc | apply pw_below_drewN | apply below_drew1 | refine below_set ?_ GE233.out) | exact HB.out))) : w.heap.size ≤ gb234)); have n5_ := Aside0.mk ((by rw [hg]; exact Nat.ne_of_lt (blk_lt (g := gb233) (o := .cells #[.int .u64 a0_0, .int .u64 a0_1] 66 (0, 0)) (by (with_reducible repeat (first | refine blk_drewN ?_ _ | refine blk_drew ?_ | refine blk_alloc ?_ _)); exact BK233.out)) : gb233 ≠ gb234)); have n6_ := Aside0.mk ((by rw [hg]; exact Nat.ne_of_gt (blk_lt (g := gb233) (o := .cells #[.int .u64 a0_0, .int .u64 a0_1] 66 (0, 0)) (by (with_reducible repeat (first | refine blk_drewN ?_ _ | refine blk_drew ?_ | refine blk_alloc ?_ _)); exact BK233.out)) : gb234 ≠ gb233)); clear BK233; clear HB; have BK233 := n0_; have HB := n1_; have BK234 := n2_; have GW234 := n3_; have GE234 := n4_; have NB233_234 := n5_; have NB234_233 := n6_; clear n0_ n1_ n2_ n3_ n4_ n5_ n6_; clear hb hbox hg) | ((with_reducible refine gate_dst (N := 4) rfl ?_); refine box_event ?hg (N := 4) ?hd (cs := #[.int .u64 0, .int .u64 0]) (t := 66) ?hr ?_; (case hd => rfl); (case hg => rfl); (case hr => first | (go_simp; done) | (go_simp; rfl)); intro gb235 hg w7 hbox hb; have n0_ := Aside0.mk (blk_below (g := gb233) (o := .cells #[.int .u64 a0_0, .int .u64 a0_1] 66 (0, 0)) (by (with_reducible repeat (first | refine blk_drewN ?_ _ | refine blk_drew ?_ | refine blk_alloc ?_ _)); exact BK233.out) hb); have n1_ := Aside0.mk (blk_below (g := gb234) (o := .cells #[.int .u64 a1_0, .int .u64 a1_1] 66 (0, 0)) (by (with_reducible repeat (first | refine blk_drewN ?_ _ | refine blk_drew ?_ | refine blk_alloc ?_ _)); exact BK234.out) hb); have n2_ := Aside0.mk (below_step (by repeat (first | (with_reducible first | exact HB.out | apply below_alloc | apply pw_below_drewN | apply below_drew1 | refine below_set ?_ GE233.out | refine below_set ?_ GE234.out) | exact HB.out)) hb); have n3_ := Aside0.mk (hbox); have n4_ := Aside0.mk ((by rw [hg]; exact (below_size (by repeat (first | (with_reducible first | exact HB.out | apply below_alloc | apply pw_below_drewN | apply below_drew1 | refine below_set ?_ GE233.out | refine below_set ?_ GE234.out) | exact HB.out))) : w.heap.size ≤ gb235)); have n5_ := Aside0.mk ((by rw [hg]; exact (below_size (by repeat (first | (with_reducible first | exact HB.out | apply below_alloc | apply pw_below_drewN | apply below_drew1 | refine below_set ?_ GE233.out | refine below_set ?_ GE234.out) | exact HB.out))) : w.heap.size ≤ gb235)); have n6_ := Aside0.mk ((by rw [hg]; exact Nat.ne_of_lt (blk_lt (g := gb233) (o := .cells #[.int .u64 a0_0, .int .u64 a0_1] 66 (0, 0)) (by (with_reducible repeat (first | refine blk_drewN ?_ _ | refine blk_drew ?_ | refine blk_alloc ?_ _)); exact BK233.out)) : gb233 ≠ gb235)); have n7_ := Aside0.mk ((by rw [hg]; exact Nat.ne_of_gt (blk_lt (g := gb233) (o := .cells #[.int .u64 a0_0, .int .u64 a0_1] 66 (0, 0)) (by (with_reducible repeat (first | refine blk_drewN ?_ _ | refine blk_drew ?_ | refine blk_alloc ?_ _)); exact BK233.out)) : gb235 ≠ gb233)); have n8_ := Aside0.mk ((by rw [hg]; exact Nat.ne_of_lt (blk_lt (g := gb234) (o := .cells #[.int .u64 a1_0, .int .u64 a1_1] 66 (0, 0)) (by (with_reducible repeat (first | refine blk_drewN ?_ _ | refine blk_drew ?_ | refine blk_alloc ?_ _)); exact BK234.out)) : gb234 ≠ gb235)); have n9_ := Aside0.mk ((by rw [hg]; exact Nat.ne_of_gt (blk_lt (g := gb234) (o := .cells #[.int .u64 a1_0, .int .u64 a1_1] 66 (0, 0)) (by (with_reducible repeat (first | refine blk_drewN ?_ _ | refine blk_drew ?_ | refine blk_alloc ?_ _)); exact BK234.out)) : gb235 ≠ gb234)); clear BK233; clear BK234; clear HB; have BK233 := n0_; have BK234 := n1_; have HB := n2_; have BK235 := n3_; have GW235 := n4_; have GE235 := n5_; have NB233_235 := n6_; have NB235_233 := n7_; have NB234_235 := n8_; have NB235_234 := n9_; clear n0_ n1_ n2_ n3_ n4_ n5_ n6_ n7_ n8_ n9_; clear hb hbox hg; have hnb8 := NB233_234.out; have hnc8 := NB234_233.out; have hnb9 := NB233_235.out; have hnc9 := NB235_233.out; have hcz10_0 : w7.cell? ⟨gb233, 0, none⟩ = some (.int .u64 a0_0) := (blk_cell BK233.out 0).trans rfl; have hcz10_1 : w7.cell? ⟨gb233, 1, none⟩ = some (.int .u64 a0_1) := (blk_cell BK233.out 1).trans rfl; have hfz10_0 := blk_frozen BK233.out 0; have hfz10_1 := blk_frozen BK233.out 1; have hnb11 := NB234_235.out; have hnc11 := NB235_234.out; have hcz12_0 : w7.cell? ⟨gb234, 0, none⟩ = some (.int .u64 a1_0) := (blk_cell BK234.out 0).trans rfl; have hcz12_1 : w7.cell? ⟨gb234, 1, none⟩ = some (.int .u64 a1_1) := (blk_cell BK234.out 1).trans rfl; have hfz12_0 := blk_frozen BK234.out 0; have hfz12_1 := blk_frozen BK234.out 1; have hcz13_0 : w7.cell? ⟨gb235, 0, none⟩ = some (.int .u64 0) := (blk_cell BK235.out 0).trans rfl; have hcz13_1 : w7.cell? ⟨gb235, 1, none⟩ = some (.int .u64 0) := (blk_cell BK235.out 1).trans rfl; have hfz13_0 := blk_frozen BK235.out 0; have hfz13_1 := blk_frozen BK235.out 1)); try go_wp2_with (first | ((with_reducible refine gate_dst (N := 2) rfl ?_); refine box_event ?hg (N := 2) ?hd (cs := #[.int .u64 a0_0, .int .u64 a0_1]) (t := 66) ?hr ?_; (case hd => rfl); (case hg => rfl); (case hr => first | (go_simp; done) | (go_simp; rfl)); intro gb233 hg w5 hbox hb; have n0_ := Aside0.mk (below_step (by repeat (first | (with_reducible first | exact HB.out | apply below_alloc | apply pw_below_drewN | apply below_drew1) | exact HB.out)) hb); have n1_ := Aside0.mk (hbox); have n2_ := Aside0.mk ((by rw [hg]; exact (below_size (by repeat (first | (with_reducible first | exact HB.out | apply below_alloc | apply pw_below_drewN | apply below_drew1) | exact HB.out))) : w.heap.size ≤ gb233)); have n3_ := Aside0.mk ((by rw [hg]; exact (below_size (by repeat (first | (with_reducible first | exact HB.out | apply below_alloc | apply pw_below_drewN | apply below_drew1) | exact HB.out))) : w.heap.size ≤ gb233)); clear HB; have HB := n0_; have BK233 := n1_; have GW233 := n2_; have GE233 := n3_; clear n0_ n1_ n2_ n3_; clear hb hbox hg) | ((with_reducible refine gate_dst (N := 3) rfl ?_); refine box_event ?hg (N := 3) ?hd (cs := #[.int .u64 a1_0, .int .u64 a1_1]) (t := 66) ?hr ?_; (case hd => rfl); (case hg => rfl); (case hr => first | (go_simp; done) | (go_simp; rfl)); intro gb234 hg w6 hbox hb; have n0_ := Aside0.mk (blk_below (g := gb233) (o := .cells #[.int .u64 a0_0, .int .u64 a0_1] 66 (0, 0)) (by (with_reducible repeat (first | refine blk_drewN ?_ _ | refine blk_drew ?_ | refine blk_alloc ?_ _)); exact BK233.out) hb); have n1_ := Aside0.mk (below_step (by repeat (first | (with_reducible first | exact HB.out | apply below_alloc | apply pw_below_drewN | apply below_drew1 | refine below_set ?_ GE233.out) | exact HB.out)) hb); have n2_ := Aside0.mk (hbox); have n3_ := Aside0.mk ((by rw [hg]; exact (below_size (by repeat (first | (with_reducible first | exact HB.out | apply below_alloc | apply pw_below_drewN | apply below_drew1 | refine below_set ?_ GE233.out) | exact HB.out))) : w.heap.size ≤ gb234)); have n4_ := Aside0.mk ((by rw [hg]; exact (below_size (by repeat (first | (with_reducible first | exact HB.out | apply below_alloc | apply pw_below_drewN | apply below_drew1 | refine below_set ?_ GE233.out) | exact HB.out))) : w.heap.size ≤ gb234)); have n5_ := Aside0.mk ((by rw [hg]; exact Nat.ne_of_lt (blk_lt (g := gb233) (o := .cells #[.int .u64 a0_0, .int .u64 a0_1] 66 (0, 0)) (by (with_reducible repeat (first | refine blk_drewN ?_ _ | refine blk_drew ?_ | refine blk_alloc ?_ _)); exact BK233.out)) : gb233 ≠ gb234)); have n6_ := Aside0.mk ((by rw [hg]; exact Nat.ne_of_gt (blk_lt (g := gb233) (o := .cells #[.int .u64 a0_0, .int .u64 a0_1] 66 (0, 0)) (by (with_reducible repeat (first | refine blk_drewN ?_ _ | refine blk_drew ?_ | refine blk_alloc ?_ _)); exact BK233.out)) : gb234 ≠ gb233)); clear BK233; clear HB; have BK233 := n0_; have HB := n1_; have BK234 := n2_; have GW234 := n3_; have GE234 := n4_; have NB233_234 := n5_; have NB234_233 := n6_; clear n0_ n1_ n2_ n3_ n4_ n5_ n6_; clear hb hbox hg) | ((with_reducible refine gate_dst (N := 4) rfl ?_); refine box_event ?hg (N := 4) ?hd (cs := #[.int .u64 0, .int .u64 0]) (t := 66) ?hr ?_; (case hd => rfl); (case hg => rfl); (case hr => first | (go_simp; done) | (go_simp; rfl)); intro gb235 hg w7 hbox hb; have n0_ := Aside0.mk (blk_below (g := gb233) (o := .cells #[.int .u64 a0_0, .int .u64 a0_1] 66 (0, 0)) (by (with_reducible repeat (first | refine blk_drewN ?_ _ | refine blk_drew ?_ | refine blk_alloc ?_ _)); exact BK233.out) hb); have n1_ := Aside0.mk (blk_below (g := gb234) (o := .cells #[.int .u64 a1_0, .int .u64 a1_1] 66 (0, 0)) (by (with_reducible repeat (first | refine blk_drewN ?_ _ | refine blk_drew ?_ | refine blk_alloc ?_ _)); exact BK234.out) hb); have n2_ := Aside0.mk (below_step (by repeat (first | (with_reducible first | exact HB.out | apply below_alloc | apply pw_below_drewN | apply below_drew1 | refine below_set ?_ GE233.out | refine below_set ?_ GE234.out) | exact HB.out)) hb); have n3_ := Aside0.mk (hbox); have n4_ := Aside0.mk ((by rw [hg]; exact (below_size (by repeat (first | (with_reducible first | exact HB.out | apply below_alloc | apply pw_below_drewN | apply below_drew1 | refine below_set ?_ GE233.out | refine below_set ?_ GE234.out) | exact HB.out))) : w.heap.size ≤ gb235)); have n5_ := Aside0.mk ((by rw [hg]; exact (below_size (by repeat (first | (with_reducible first | exact HB.out | apply below_alloc | apply pw_below_drewN | apply below_drew1 | refine below_set ?_ GE233.out | refine below_set ?_ GE234.out) | exact HB.out))) : w.heap.size ≤ gb235)); have n6_ := Aside0.mk ((by rw [hg]; exact Nat.ne_of_lt (blk_lt (g := gb233) (o := .cells #[.int .u64 a0_0, .int .u64 a0_1] 66 (0, 0)) (by (with_reducible repeat (first | refine blk_drewN ?_ _ | refine blk_drew ?_ | refine blk_alloc ?_ _)); exact BK233.out)) : gb233 ≠ gb235)); have n7_ := Aside0.mk ((by rw [hg]; exact Nat.ne_of_gt (blk_lt (g := gb233) (o := .cells #[.int .u64 a0_0, .int .u64 a0_1] 66 (0, 0)) (by (with_reducible repeat (first | refine blk_drewN ?_ _ | refine blk_drew ?_ | refine blk_alloc ?_ _)); exact BK233.out)) : gb235 ≠ gb233)); have n8_ := Aside0.mk ((by rw [hg]; exact Nat.ne_of_lt (blk_lt (g := gb234) (o := .cells #[.int .u64 a1_0, .int .u64 a1_1] 66 (0, 0)) (by (with_reducible repeat (first | refine blk_drewN ?_ _ | refine blk_drew ?_ | refine blk_alloc ?_ _)); exact BK234.out)) : gb234 ≠ gb235)); have n9_ := Aside0.mk ((by rw [hg]; exact Nat.ne_of_gt (blk_lt (g := gb234) (o := .cells #[.int .u64 a1_0, .int .u64 a1_1] 66 (0, 0)) (by (with_reducible repeat (first | refine blk_drewN ?_ _ | refine blk_drew ?_ | refine blk_alloc ?_ _)); exact BK234.out)) : gb235 ≠ gb234)); clear BK233; clear BK234; clear HB; have BK233 := n0_; have BK234 := n1_; have HB := n2_; have BK235 := n3_; have GW235 := n4_; have GE235 := n5_; have NB233_235 := n6_; have NB235_233 := n7_; have NB234_235 := n8_; have NB235_234 := n9_; clear n0_ n1_ n2_ n3_ n4_ n5_ n6_ n7_ n8_ n9_; clear hb hbox hg; have hnb8 := NB233_234.out; have hnc8 := NB234_233.out; have hnb9 := NB233_235.out; have hnc9 := NB235_233.out; have hcz10_0 : w7.cell? ⟨gb233, 0, none⟩ = some (.int .u64 a0_0) := (blk_cell BK233.out 0).trans rfl; have hcz10_1 : w7.cell? ⟨gb233, 1, none⟩ = some (.int .u64 a0_1) := (blk_cell BK233.out 1).trans rfl; have hfz10_0 := blk_frozen BK233.out 0; have hfz10_1 := blk_frozen BK233.out 1; have hnb11 := NB234_235.out; have hnc11 := NB235_234.out; have hcz12_0 : w7.cell? ⟨gb234, 0, none⟩ = some (.int .u64 a1_0) := (blk_cell BK234.out 0).trans rfl; have hcz12_1 : w7.cell? ⟨gb234, 1, none⟩ = some (.int .u64 a1_1) := (blk_cell BK234.out 1).trans rfl; have hfz12_0 := blk_frozen BK234.out 0; have hfz12_1 := blk_frozen BK234.out 1; have hcz13_0 : w7.cell? ⟨gb235, 0, none⟩ = some (.int .u64 0) := (blk_cell BK235.out 0).trans rfl; have hcz13_1 : w7.cell? ⟨gb235, 1, none⟩ = some (.int .u64 0) := (blk_cell BK235.out 1).trans rfl; have hfz13_0 := blk_frozen BK235.out 0; have hfz13_1 := blk_frozen BK235.out 1)))
      refine bodyPost_ret (results_ct rfl _ _ gb235 66 #[.int .u64 (IntKind.u64.wrap ((IntKind.u64.wrap (a0_0 + a1_0)) + 1)), .int .u64 (IntKind.u64.wrap (a0_1 + a1_1))] (0, 0) _ rfl (by (with_reducible repeat (first | refine blk_drewN ?_ _ | refine blk_drew ?_ | refine blk_alloc ?_ _)); refine blk_put (cs := #[.int .u64 (IntKind.u64.wrap ((IntKind.u64.wrap (a0_0 + a1_0)) + 1)), .int .u64 0]) ?_ 1 _ rfl; (with_reducible repeat (first | refine blk_drewN ?_ _ | refine blk_drew ?_ | refine blk_alloc ?_ _)); refine blk_put (cs := #[.int .u64 0, .int .u64 0]) ?_ 0 _ rfl; (with_reducible repeat (first | refine blk_drewN ?_ _ | refine blk_drew ?_ | refine blk_alloc ?_ _)); exact BK235.out) Try.underlying66 rfl (by kernel_rfl)) rfl ?_
      exact ⟨by first | rfl | (simp [errW_none, errW_some] <;> rfl) | (simp [*, errW_none, errW_some] <;> rfl) | (simp (disch := first | assumption | omega) only [Int.tdiv_eq_ediv_of_nonneg, Int.tmod_eq_emod_of_nonneg]; rfl), by repeat (first | (with_reducible first | exact HB.out | apply below_alloc | apply pw_below_drewN | apply below_drew1 | refine below_set ?_ GE233.out | refine below_set ?_ GE234.out | refine below_set ?_ GE235.out) | exact HB.out)⟩
    · rw [if_neg c4] at H
      have c4b0 : decide ((IntKind.u64.wrap (a0_0 + a1_0)) < a0_0) = false := decide_eq_false c4
      clear c4
      simp only [Option.some.injEq, Prod.mk.injEq] at H
      obtain ⟨rfl, rfl, rfl⟩ := H
      go_enter Try.func39, Try.ntmps39
      go_wp2_with (first | ((with_reducible refine gate_dst (N := 2) rfl ?_); refine box_event ?hg (N := 2) ?hd (cs := #[.int .u64 a0_0, .int .u64 a0_1]) (t := 66) ?hr ?_; (case hd => rfl); (case hg => rfl); (case hr => first | (go_simp; done) | (go_simp; rfl)); intro gb233 hg w14 hbox hb; have n0_ := Aside0.mk (below_step (by repeat (first | (with_reducible first | exact HB.out | apply below_alloc | apply pw_below_drewN | apply below_drew1) | exact HB.out)) hb); have n1_ := Aside0.mk (hbox); have n2_ := Aside0.mk ((by rw [hg]; exact (below_size (by repeat (first | (with_reducible first | exact HB.out | apply below_alloc | apply pw_below_drewN | apply below_drew1) | exact HB.out))) : w.heap.size ≤ gb233)); have n3_ := Aside0.mk ((by rw [hg]; exact (below_size (by repeat (first | (with_reducible first | exact HB.out | apply below_alloc | apply pw_below_drewN | apply below_drew1) | exact HB.out))) : w.heap.size ≤ gb233)); clear HB; have HB := n0_; have BK233 := n1_; have GW233 := n2_; have GE233 := n3_; clear n0_ n1_ n2_ n3_; clear hb hbox hg) | ((with_reducible refine gate_dst (N := 3) rfl ?_); refine box_event ?hg (N := 3) ?hd (cs := #[.int .u64 a1_0, .int .u64 a1_1]) (t := 66) ?hr ?_; (case hd => rfl); (case hg => rfl); (case hr => first | (go_simp; done) | (go_simp; rfl)); intro gb234 hg w15 hbox hb; have n0_ := Aside0.mk (blk_below (g := gb233) (o := .cells #[.int .u64 a0_0, .int .u64 a0_1] 66 (0, 0)) (by (with_reducible repeat (first | refine blk_drewN ?_ _ | refine blk_drew ?_ | refine blk_alloc ?_ _)); exact BK233.out) hb); have n1_ := Aside0.mk (below_step (by repeat (first | (with_reducible first | exact HB.out | apply below_alloc | apply pw_below_drewN | apply below_drew1 | refine below_set ?_ GE233.out) | exact HB.out)) hb); have n2_ := Aside0.mk (hbox); have n3_ := Aside0.mk ((by rw [hg]; exact (below_size (by repeat (first | (with_reducible first | exact HB.out | apply below_alloc | apply pw_below_drewN | apply below_drew1 | refine below_set ?_ GE233.out) | exact HB.out))) : w.heap.size ≤ gb234)); have n4_ := Aside0.mk ((by rw [hg]; exact (below_size (by repeat (first | (with_reducible first | exact HB.out | apply below_alloc | apply pw_below_drewN | apply below_drew1 | refine below_set ?_ GE233.out) | exact HB.out))) : w.heap.size ≤ gb234)); have n5_ := Aside0.mk ((by rw [hg]; exact Nat.ne_of_lt (blk_lt (g := gb233) (o := .cells #[.int .u64 a0_0, .int .u64 a0_1] 66 (0, 0)) (by (with_reducible repeat (first | refine blk_drewN ?_ _ | refine blk_drew ?_ | refine blk_alloc ?_ _)); exact BK233.out)) : gb233 ≠ gb234)); have n6_ := Aside0.mk ((by rw [hg]; exact Nat.ne_of_gt (blk_lt (g := gb233) (o := .cells #[.int .u64 a0_0, .int .u64 a0_1] 66 (0, 0)) (by (with_reducible repeat (first | refine blk_drewN ?_ _ | refine blk_drew ?_ | refine blk_alloc ?_ _)); exact BK233.out)) : gb234 ≠ gb233)); clear BK233; clear HB; have BK233 := n0_; have HB := n1_; have BK234 := n2_; have GW234 := n3_; have GE234 := n4_; have NB233_234 := n5_; have NB234_233 := n6_; clear n0_ n1_ n2_ n3_ n4_ n5_ n6_; clear hb hbox hg) | ((with_reducible refine gate_dst (N := 4) rfl ?_); refine box_event ?hg (N := 4) ?hd (cs := #[.int .u64 0, .int .u64 0]) (t := 66) ?hr ?_; (case hd => rfl); (case hg => rfl); (case hr => first | (go_simp; done) | (go_simp; rfl)); intro gb235 hg w16 hbox hb; have n0_ := Aside0.mk (blk_below (g := gb233) (o := .cells #[.int .u64 a0_0, .int .u64 a0_1] 66 (0, 0)) (by (with_reducible repeat (first | refine blk_drewN ?_ _ | refine blk_drew ?_ | refine blk_alloc ?_ _)); exact BK233.out) hb); have n1_ := Aside0.mk (blk_below (g := gb234) (o := .cells #[.int .u64 a1_0, .int .u64 a1_1] 66 (0, 0)) (by (with_reducible repeat (first | refine blk_drewN ?_ _ | refine blk_drew ?_ | refine blk_alloc ?_ _)); exact BK234.out) hb); have n2_ := Aside0.mk (below_step (by repeat (first | (with_reducible first | exact HB.out | apply below_alloc | apply pw_below_drewN | apply below_drew1 | refine below_set ?_ GE233.out | refine below_set ?_ GE234.out) | exact HB.out)) hb); have n3_ := Aside0.mk (hbox); have n4_ := Aside0.mk ((by rw [hg]; exact (below_size (by repeat (first | (with_reducible first | exact HB.out | apply below_alloc | apply pw_below_drewN | apply below_drew1 | refine below_set ?_ GE233.out | refine below_set ?_ GE234.out) | exact HB.out))) : w.heap.size ≤ gb235)); have n5_ := Aside0.mk ((by rw [hg]; exact (below_size (by repeat (first | (with_reducible first | exact HB.out | apply below_alloc | apply pw_below_drewN | apply below_drew1 | refine below_set ?_ GE233.out | refine below_set ?_ GE234.out) | exact HB.out))) : w.heap.size ≤ gb235)); have n6_ := Aside0.mk ((by rw [hg]; exact Nat.ne_of_lt (blk_lt (g := gb233) (o := .cells #[.int .u64 a0_0, .int .u64 a0_1] 66 (0, 0)) (by (with_reducible repeat (first | refine blk_drewN ?_ _ | refine blk_drew ?_ | refine blk_alloc ?_ _)); exact BK233.out)) : gb233 ≠ gb235)); have n7_ := Aside0.mk ((by rw [hg]; exact Nat.ne_of_gt (blk_lt (g := gb233) (o := .cells #[.int .u64 a0_0, .int .u64 a0_1] 66 (0, 0)) (by (with_reducible repeat (first | refine blk_drewN ?_ _ | refine blk_drew ?_ | refine blk_alloc ?_ _)); exact BK233.out)) : gb235 ≠ gb233)); have n8_ := Aside0.mk ((by rw [hg]; exact Nat.ne_of_lt (blk_lt (g := gb234) (o := .cells #[.int .u64 a1_0, .int .u64 a1_1] 66 (0, 0)) (by (with_reducible repeat (first | refine blk_drewN ?_ _ | refine blk_drew ?_ | refine blk_alloc ?_ _)); exact BK234.out)) : gb234 ≠ gb235)); have n9_ := Aside0.mk ((by rw [hg]; exact Nat.ne_of_gt (blk_lt (g := gb234) (o := .cells #[.int .u64 a1_0, .int .u64 a1_1] 66 (0, 0)) (by (with_reducible repeat (first | refine blk_drewN ?_ _ | refine blk_drew ?_ | refine blk_alloc ?_ _)); exact BK234.out)) : gb235 ≠ gb234)); clear BK233; clear BK234; clear HB; have BK233 := n0_; have BK234 := n1_; have HB := n2_; have BK235 := n3_; have GW235 := n4_; have GE235 := n5_; have NB233_235 := n6_; have NB235_233 := n7_; have NB234_235 := n8_; have NB235_234 := n9_; clear n0_ n1_ n2_ n3_ n4_ n5_ n6_ n7_ n8_ n9_; clear hb hbox hg; have hnb17 := NB233_234.out; have hnc17 := NB234_233.out; have hnb18 := NB233_235.out; have hnc18 := NB235_233.out; have hcz19_0 : w16.cell? ⟨gb233, 0, none⟩ = some (.int .u64 a0_0) := (blk_cell BK233.out 0).trans rfl; have hcz19_1 : w16.cell? ⟨gb233, 1, none⟩ = some (.int .u64 a0_1) := (blk_cell BK233.out 1).trans rfl; have hfz19_0 := blk_frozen BK233.out 0; have hfz19_1 := blk_frozen BK233.out 1; have hnb20 := NB234_235.out; have hnc20 := NB235_234.out; have hcz21_0 : w16.cell? ⟨gb234, 0, none⟩ = some (.int .u64 a1_0) := (blk_cell BK234.out 0).trans rfl; have hcz21_1 : w16.cell? ⟨gb234, 1, none⟩ = some (.int .u64 a1_1) := (blk_cell BK234.out 1).trans rfl; have hfz21_0 := blk_frozen BK234.out 0; have hfz21_1 := blk_frozen BK234.out 1; have hcz22_0 : w16.cell? ⟨gb235, 0, none⟩ = some (.int .u64 0) := (blk_cell BK235.out 0).trans rfl; have hcz22_1 : w16.cell? ⟨gb235, 1, none⟩ = some (.int .u64 0) := (blk_cell BK235.out 1).trans rfl; have hfz22_0 := blk_frozen BK235.out 0; have hfz22_1 := blk_frozen BK235.out 1))
      repeat (go_quiet (first | ((with_reducible refine gate_dst (N := 2) rfl ?_); refine box_event ?hg (N := 2) ?hd (cs := #[.int .u64 a0_0, .int .u64 a0_1]) (t := 66) ?hr ?_; (case hd => rfl); (case hg => rfl); (case hr => first | (go_simp; done) | (go_simp; rfl)); intro gb233 hg w14 hbox hb; have n0_ := Aside0.mk (below_step (by repeat (first | (with_reducible first | exact HB.out | apply below_alloc | apply pw_below_drewN | apply below_drew1) | exact HB.out)) hb); have n1_ := Aside0.mk (hbox); have n2_ := Aside0.mk ((by rw [hg]; exact (below_size (by repeat (first | (with_reducible first | exact HB.out | apply below_alloc | apply pw_below_drewN | apply below_drew1) | exact HB.out))) : w.heap.size ≤ gb233)); have n3_ := Aside0.mk ((by rw [hg]; exact (below_size (by repeat (first | (with_reducible first | exact HB.out | apply below_alloc | apply pw_below_drewN | apply below_drew1) | exact HB.out))) : w.heap.size ≤ gb233)); clear HB; have HB := n0_; have BK233 := n1_; have GW233 := n2_; have GE233 := n3_; clear n0_ n1_ n2_ n3_; clear hb hbox hg) | ((with_reducible refine gate_dst (N := 3) rfl ?_); refine box_event ?hg (N := 3) ?hd (cs := #[.int .u64 a1_0, .int .u64 a1_1]) (t := 66) ?hr ?_; (case hd => rfl); (case hg => rfl); (case hr => first | (go_simp; done) | (go_simp; rfl)); intro gb234 hg w15 hbox hb; have n0_ := Aside0.mk (blk_below (g := gb233) (o := .cells #[.int .u64 a0_0, .int .u64 a0_1] 66 (0, 0)) (by (with_reducible repeat (first | refine blk_drewN ?_ _ | refine blk_drew ?_ | refine blk_alloc ?_ _)); exact BK233.out) hb); have n1_ := Aside0.mk (below_step (by repeat (first | (with_reducible first | exact HB.out | apply below_alloc | apply pw_below_drewN | apply below_drew1 | refine below_set ?_ GE233.out) | exact HB.out)) hb); have n2_ := Aside0.mk (hbox); have n3_ := Aside0.mk ((by rw [hg]; exact (below_size (by repeat (first | (with_reducible first | exact HB.out | apply below_alloc | apply pw_below_drewN | apply below_drew1 | refine below_set ?_ GE233.out) | exact HB.out))) : w.heap.size ≤ gb234)); have n4_ := Aside0.mk ((by rw [hg]; exact (below_size (by repeat (first | (with_reducible first | exact HB.out | apply below_alloc | apply pw_below_drewN | apply below_drew1 | refine below_set ?_ GE233.out) | exact HB.out))) : w.heap.size ≤ gb234)); have n5_ := Aside0.mk ((by rw [hg]; exact Nat.ne_of_lt (blk_lt (g := gb233) (o := .cells #[.int .u64 a0_0, .int .u64 a0_1] 66 (0, 0)) (by (with_reducible repeat (first | refine blk_drewN ?_ _ | refine blk_drew ?_ | refine blk_alloc ?_ _)); exact BK233.out)) : gb233 ≠ gb234)); have n6_ := Aside0.mk ((by rw [hg]; exact Nat.ne_of_gt (blk_lt (g := gb233) (o := .cells #[.int .u64 a0_0, .int .u64 a0_1] 66 (0, 0)) (by (with_reducible repeat (first | refine blk_drewN ?_ _ | refine blk_drew ?_ | refine blk_alloc ?_ _)); exact BK233.out)) : gb234 ≠ gb233)); clear BK233; clear HB; have BK233 := n0_; have HB := n1_; have BK234 := n2_; have GW234 := n3_; have GE234 := n4_; have NB233_234 := n5_; have NB234_233 := n6_; clear n0_ n1_ n2_ n3_ n4_ n5_ n6_; clear hb hbox hg) | ((with_reducible refine gate_dst (N := 4) rfl ?_); refine box_event ?hg (N := 4) ?hd (cs := #[.int .u64 0, .int .u64 0]) (t := 66) ?hr ?_; (case hd => rfl); (case hg => rfl); (case hr => first | (go_simp; done) | (go_simp; rfl)); intro gb235 hg w16 hbox hb; have n0_ := Aside0.mk (blk_below (g := gb233) (o := .cells #[.int .u64 a0_0, .int .u64 a0_1] 66 (0, 0)) (by (with_reducible repeat (first | refine blk_drewN ?_ _ | refine blk_drew ?_ | refine blk_alloc ?_ _)); exact BK233.out) hb); have n1_ := Aside0.mk (blk_below (g := gb234) (o := .cells #[.int .u64 a1_0, .int .u64 a1_1] 66 (0, 0)) (by (with_reducible repeat (first | refine blk_drewN ?_ _ | refine blk_drew ?_ | refine blk_alloc ?_ _)); exact BK234.out) hb); have n2_ := Aside0.mk (below_step (by repeat (first | (with_reducible first | exact HB.out | apply below_alloc | apply pw_below_drewN | apply below_drew1 | refine below_set ?_ GE233.out | refine below_set ?_ GE234.out) | exact HB.out)) hb); have n3_ := Aside0.mk (hbox); have n4_ := Aside0.mk ((by rw [hg]; exact (below_size (by repeat (first | (with_reducible first | exact HB.out | apply below_alloc | apply pw_below_drewN | apply below_drew1 | refine below_set ?_ GE233.out | refine below_set ?_ GE234.out) | exact HB.out))) : w.heap.size ≤ gb235)); have n5_ := Aside0.mk ((by rw [hg]; exact (below_size (by repeat (first | (with_reducible first | exact HB.out | apply below_alloc | apply pw_below_drewN | apply below_drew1 | refine below_set ?_ GE233.out | refine below_set ?_ GE234.out) | exact HB.out))) : w.heap.size ≤ gb235)); have n6_ := Aside0.mk ((by rw [hg]; exact Nat.ne_of_lt (blk_lt (g := gb233) (o := .cells #[.int .u64 a0_0, .int .u64 a0_1] 66 (0, 0)) (by (with_reducible repeat (first | refine blk_drewN ?_ _ | refine blk_drew ?_ | refine blk_alloc ?_ _)); exact BK233.out)) : gb233 ≠ gb235)); have n7_ := Aside0.mk ((by rw [hg]; exact Nat.ne_of_gt (blk_lt (g := gb233) (o := .cells #[.int .u64 a0_0, .int .u64 a0_1] 66 (0, 0)) (by (with_reducible repeat (first | refine blk_drewN ?_ _ | refine blk_drew ?_ | refine blk_alloc ?_ _)); exact BK233.out)) : gb235 ≠ gb233)); have n8_ := Aside0.mk ((by rw [hg]; exact Nat.ne_of_lt (blk_lt (g := gb234) (o := .cells #[.int .u64 a1_0, .int .u64 a1_1] 66 (0, 0)) (by (with_reducible repeat (first | refine blk_drewN ?_ _ | refine blk_drew ?_ | refine blk_alloc ?_ _)); exact BK234.out)) : gb234 ≠ gb235)); have n9_ := Aside0.mk ((by rw [hg]; exact Nat.ne_of_gt (blk_lt (g := gb234) (o := .cells #[.int .u64 a1_0, .int .u64 a1_1] 66 (0, 0)) (by (with_reducible repeat (first | refine blk_drewN ?_ _ | refine blk_drew ?_ | refine blk_alloc ?_ _)); exact BK234.out)) : gb235 ≠ gb234)); clear BK233; clear BK234; clear HB; have BK233 := n0_; have BK234 := n1_; have HB := n2_; have BK235 := n3_; have GW235 := n4_; have GE235 := n5_; have NB233_235 := n6_; have NB235_233 := n7_; have NB234_235 := n8_; have NB235_234 := n9_; clear n0_ n1_ n2_ n3_ n4_ n5_ n6_ n7_ n8_ n9_; clear hb hbox hg; have hnb17 := NB233_234.out; have hnc17 := NB234_233.out; have hnb18 := NB233_235.out; have hnc18 := NB235_233.out; have hcz19_0 : w16.cell? ⟨gb233, 0, none⟩ = some (.int .u64 a0_0) := (blk_cell BK233.out 0).trans rfl; have hcz19_1 : w16.cell? ⟨gb233, 1, none⟩ = some (.int .u64 a0_1) := (blk_cell BK233.out 1).trans rfl; have hfz19_0 := blk_frozen BK233.out 0; have hfz19_1 := blk_frozen BK233.out 1; have hnb20 := NB234_235.out; have hnc20 := NB235_234.out; have hcz21_0 : w16.cell? ⟨gb234, 0, none⟩ = some (.int .u64 a1_0) := (blk_cell BK234.out 0).trans rfl; have hcz21_1 : w16.cell? ⟨gb234, 1, none⟩ = some (.int .u64 a1_1) := (blk_cell BK234.out 1).trans rfl; have hfz21_0 := blk_frozen BK234.out 0; have hfz21_1 := blk_frozen BK234.out 1; have hcz22_0 : w16.cell? ⟨gb235, 0, none⟩ = some (.int .u64 0) := (blk_cell BK235.out 0).trans rfl; have hcz22_1 : w16.cell? ⟨gb235, 1, none⟩ = some (.int .u64 0) := (blk_cell BK235.out 1).trans rfl; have hfz22_0 := blk_frozen BK235.out 0; have hfz22_1 := blk_frozen BK235.out 1)); try go_wp2_with (first | ((with_reducible refine gate_dst (N := 2) rfl ?_); refine box_event ?hg (N := 2) ?hd (cs := #[.int .u64 a0_0, .int .u64 a0_1]) (t := 66) ?hr ?_; (case hd => rfl); (case hg => rfl); (case hr => first | (go_simp; done) | (go_simp; rfl)); intro gb233 hg w14 hbox hb; have n0_ := Aside0.mk (below_step (by repeat (first | (with_reducible first | exact HB.out | apply below_alloc | apply pw_below_drewN | apply below_drew1) | exact HB.out)) hb); have n1_ := Aside0.mk (hbox); have n2_ := Aside0.mk ((by rw [hg]; exact (below_size (by repeat (first | (with_reducible first | exact HB.out | apply below_alloc | apply pw_below_drewN | apply below_drew1) | exact HB.out))) : w.heap.size ≤ gb233)); have n3_ := Aside0.mk ((by rw [hg]; exact (below_size (by repeat (first | (with_reducible first | exact HB.out | apply below_alloc | apply pw_below_drewN | apply below_drew1) | exact HB.out))) : w.heap.size ≤ gb233)); clear HB; have HB := n0_; have BK233 := n1_; have GW233 := n2_; have GE233 := n3_; clear n0_ n1_ n2_ n3_; clear hb hbox hg) | ((with_reducible refine gate_dst (N := 3) rfl ?_); refine box_event ?hg (N := 3) ?hd (cs := #[.int .u64 a1_0, .int .u64 a1_1]) (t := 66) ?hr ?_; (case hd => rfl); (case hg => rfl); (case hr => first | (go_simp; done) | (go_simp; rfl)); intro gb234 hg w15 hbox hb; have n0_ := Aside0.mk (blk_below (g := gb233) (o := .cells #[.int .u64 a0_0, .int .u64 a0_1] 66 (0, 0)) (by (with_reducible repeat (first | refine blk_drewN ?_ _ | refine blk_drew ?_ | refine blk_alloc ?_ _)); exact BK233.out) hb); have n1_ := Aside0.mk (below_step (by repeat (first | (with_reducible first | exact HB.out | apply below_alloc | apply pw_below_drewN | apply below_drew1 | refine below_set ?_ GE233.out) | exact HB.out)) hb); have n2_ := Aside0.mk (hbox); have n3_ := Aside0.mk ((by rw [hg]; exact (below_size (by repeat (first | (with_reducible first | exact HB.out | apply below_alloc | apply pw_below_drewN | apply below_drew1 | refine below_set ?_ GE233.out) | exact HB.out))) : w.heap.size ≤ gb234)); have n4_ := Aside0.mk ((by rw [hg]; exact (below_size (by repeat (first | (with_reducible first | exact HB.out | apply below_alloc | apply pw_below_drewN | apply below_drew1 | refine below_set ?_ GE233.out) | exact HB.out))) : w.heap.size ≤ gb234)); have n5_ := Aside0.mk ((by rw [hg]; exact Nat.ne_of_lt (blk_lt (g := gb233) (o := .cells #[.int .u64 a0_0, .int .u64 a0_1] 66 (0, 0)) (by (with_reducible repeat (first | refine blk_drewN ?_ _ | refine blk_drew ?_ | refine blk_alloc ?_ _)); exact BK233.out)) : gb233 ≠ gb234)); have n6_ := Aside0.mk ((by rw [hg]; exact Nat.ne_of_gt (blk_lt (g := gb233) (o := .cells #[.int .u64 a0_0, .int .u64 a0_1] 66 (0, 0)) (by (with_reducible repeat (first | refine blk_drewN ?_ _ | refine blk_drew ?_ | refine blk_alloc ?_ _)); exact BK233.out)) : gb234 ≠ gb233)); clear BK233; clear HB; have BK233 := n0_; have HB := n1_; have BK234 := n2_; have GW234 := n3_; have GE234 := n4_; have NB233_234 := n5_; have NB234_233 := n6_; clear n0_ n1_ n2_ n3_ n4_ n5_ n6_; clear hb hbox hg) | ((with_reducible refine gate_dst (N := 4) rfl ?_); refine box_event ?hg (N := 4) ?hd (cs := #[.int .u64 0, .int .u64 0]) (t := 66) ?hr ?_; (case hd => rfl); (case hg => rfl); (case hr => first | (go_simp; done) | (go_simp; rfl)); intro gb235 hg w16 hbox hb; have n0_ := Aside0.mk (blk_below (g := gb233) (o := .cells #[.int .u64 a0_0, .int .u64 a0_1] 66 (0, 0)) (by (with_reducible repeat (first | refine blk_drewN ?_ _ | refine blk_drew ?_ | refine blk_alloc ?_ _)); exact BK233.out) hb); have n1_ := Aside0.mk (blk_below (g := gb234) (o := .cells #[.int .u64 a1_0, .int .u64 a1_1] 66 (0, 0)) (by (with_reducible repeat (first | refine blk_drewN ?_ _ | refine blk_drew ?_ | refine blk_alloc ?_ _)); exact BK234.out) hb); have n2_ := Aside0.mk (below_step (by repeat (first | (with_reducible first | exact HB.out | apply below_alloc | apply pw_below_drewN | apply below_drew1 | refine below_set ?_ GE233.out | refine below_set ?_ GE234.out) | exact HB.out)) hb); have n3_ := Aside0.mk (hbox); have n4_ := Aside0.mk ((by rw [hg]; exact (below_size (by repeat (first | (with_reducible first | exact HB.out | apply below_alloc | apply pw_below_drewN | apply below_drew1 | refine below_set ?_ GE233.out | refine below_set ?_ GE234.out) | exact HB.out))) : w.heap.size ≤ gb235)); have n5_ := Aside0.mk ((by rw [hg]; exact (below_size (by repeat (first | (with_reducible first | exact HB.out | apply below_alloc | apply pw_below_drewN | apply below_drew1 | refine below_set ?_ GE233.out | refine below_set ?_ GE234.out) | exact HB.out))) : w.heap.size ≤ gb235)); have n6_ := Aside0.mk ((by rw [hg]; exact Nat.ne_of_lt (blk_lt (g := gb233) (o := .cells #[.int .u64 a0_0, .int .u64 a0_1] 66 (0, 0)) (by (with_reducible repeat (first | refine blk_drewN ?_ _ | refine blk_drew ?_ | refine blk_alloc ?_ _)); exact BK233.out)) : gb233 ≠ gb235)); have n7_ := Aside0.mk ((by rw [hg]; exact Nat.ne_of_gt (blk_lt (g := gb233) (o := .cells #[.int .u64 a0_0, .int .u64 a0_1] 66 (0, 0)) (by (with_reducible repeat (first | refine blk_drewN ?_ _ | refine blk_drew ?_ | refine blk_alloc ?_ _)); exact BK233.out)) : gb235 ≠ gb233)); have n8_ := Aside0.mk ((by rw [hg]; exact Nat.ne_of_lt (blk_lt (g := gb234) (o := .cells #[.int .u64 a1_0, .int .u64 a1_1] 66 (0, 0)) (by (with_reducible repeat (first | refine blk_drewN ?_ _ | refine blk_drew ?_ | refine blk_alloc ?_ _)); exact BK234.out)) : gb234 ≠ gb235)); have n9_ := Aside0.mk ((by rw [hg]; exact Nat.ne_of_gt (blk_lt (g := gb234) (o := .cells #[.int .u64 a1_0, .int .u64 a1_1] 66 (0, 0)) (by (with_reducible repeat (first | refine blk_drewN ?_ _ | refine blk_drew ?_ | refine blk_alloc ?_ _)); exact BK234.out)) : gb235 ≠ gb234)); clear BK233; clear BK234; clear HB; have BK233 := n0_; have BK234 := n1_; have HB := n2_; have BK235 := n3_; have GW235 := n4_; have GE235 := n5_; have NB233_235 := n6_; have NB235_233 := n7_; have NB234_235 := n8_; have NB235_234 := n9_; clear n0_ n1_ n2_ n3_ n4_ n5_ n6_ n7_ n8_ n9_; clear hb hbox hg; have hnb17 := NB233_234.out; have hnc17 := NB234_233.out; have hnb18 := NB233_235.out; have hnc18 := NB235_233.out; have hcz19_0 : w16.cell? ⟨gb233, 0, none⟩ = some (.int .u64 a0_0) := (blk_cell BK233.out 0).trans rfl; have hcz19_1 : w16.cell? ⟨gb233, 1, none⟩ = some (.int .u64 a0_1) := (blk_cell BK233.out 1).trans rfl; have hfz19_0 := blk_frozen BK233.out 0; have hfz19_1 := blk_frozen BK233.out 1; have hnb20 := NB234_235.out; have hnc20 := NB235_234.out; have hcz21_0 : w16.cell? ⟨gb234, 0, none⟩ = some (.int .u64 a1_0) := (blk_cell BK234.out 0).trans rfl; have hcz21_1 : w16.cell? ⟨gb234, 1, none⟩ = some (.int .u64 a1_1) := (blk_cell BK234.out 1).trans rfl; have hfz21_0 := blk_frozen BK234.out 0; have hfz21_1 := blk_frozen BK234.out 1; have hcz22_0 : w16.cell? ⟨gb235, 0, none⟩ = some (.int .u64 0) := (blk_cell BK235.out 0).trans rfl; have hcz22_1 : w16.cell? ⟨gb235, 1, none⟩ = some (.int .u64 0) := (blk_cell BK235.out 1).trans rfl; have hfz22_0 := blk_frozen BK235.out 0; have hfz22_1 := blk_frozen BK235.out 1)))
      refine bodyPost_ret (results_ct rfl _ _ gb235 66 #[.int .u64 (IntKind.u64.wrap ((IntKind.u64.wrap (a0_0 + a1_0)) + 1)), .int .u64 (IntKind.u64.wrap (a0_1 + a1_1))] (0, 0) _ rfl (by (with_reducible repeat (first | refine blk_drewN ?_ _ | refine blk_drew ?_ | refine blk_alloc ?_ _)); refine blk_put (cs := #[.int .u64 (IntKind.u64.wrap ((IntKind.u64.wrap (a0_0 + a1_0)) + 1)), .int .u64 0]) ?_ 1 _ rfl; (with_reducible repeat (first | refine blk_drewN ?_ _ | refine blk_drew ?_ | refine blk_alloc ?_ _)); refine blk_put (cs := #[.int .u64 0, .int .u64 0]) ?_ 0 _ rfl; (with_reducible repeat (first | refine blk_drewN ?_ _ | refine blk_drew ?_ | refine blk_alloc ?_ _)); exact BK235.out) Try.underlying66 rfl (by kernel_rfl)) rfl ?_
      exact ⟨by first | rfl | (simp [errW_none, errW_some] <;> rfl) | (simp [*, errW_none, errW_some] <;> rfl) | (simp (disch := first | assumption | omega) only [Int.tdiv_eq_ediv_of_nonneg, Int.tmod_eq_emod_of_nonneg]; rfl), by repeat (first | (with_reducible first | exact HB.out | apply below_alloc | apply pw_below_drewN | apply below_drew1 | refine below_set ?_ GE233.out | refine below_set ?_ GE234.out | refine below_set ?_ GE235.out) | exact HB.out)⟩
  · rw [if_neg c3] at H
    have c3b0 : decide ((IntKind.u64.wrap (a0_1 + a1_1)) < a0_1) = false := decide_eq_false c3
    clear c3
    simp only [Option.some.injEq, Prod.mk.injEq] at H
    obtain ⟨rfl, rfl, rfl⟩ := H
    go_enter Try.func39, Try.ntmps39
    go_wp2_with (first | ((with_reducible refine gate_dst (N := 2) rfl ?_); refine box_event ?hg (N := 2) ?hd (cs := #[.int .u64 a0_0, .int .u64 a0_1]) (t := 66) ?hr ?_; (case hd => rfl); (case hg => rfl); (case hr => first | (go_simp; done) | (go_simp; rfl)); intro gb233 hg w23 hbox hb; have n0_ := Aside0.mk (below_step (by repeat (first | (with_reducible first | exact HB.out | apply below_alloc | apply pw_below_drewN | apply below_drew1) | exact HB.out)) hb); have n1_ := Aside0.mk (hbox); have n2_ := Aside0.mk ((by rw [hg]; exact (below_size (by repeat (first | (with_reducible first | exact HB.out | apply below_alloc | apply pw_below_drewN | apply below_drew1) | exact HB.out))) : w.heap.size ≤ gb233)); have n3_ := Aside0.mk ((by rw [hg]; exact (below_size (by repeat (first | (with_reducible first | exact HB.out | apply below_alloc | apply pw_below_drewN | apply below_drew1) | exact HB.out))) : w.heap.size ≤ gb233)); clear HB; have HB := n0_; have BK233 := n1_; have GW233 := n2_; have GE233 := n3_; clear n0_ n1_ n2_ n3_; clear hb hbox hg) | ((with_reducible refine gate_dst (N := 3) rfl ?_); refine box_event ?hg (N := 3) ?hd (cs := #[.int .u64 a1_0, .int .u64 a1_1]) (t := 66) ?hr ?_; (case hd => rfl); (case hg => rfl); (case hr => first | (go_simp; done) | (go_simp; rfl)); intro gb234 hg w24 hbox hb; have n0_ := Aside0.mk (blk_below (g := gb233) (o := .cells #[.int .u64 a0_0, .int .u64 a0_1] 66 (0, 0)) (by (with_reducible repeat (first | refine blk_drewN ?_ _ | refine blk_drew ?_ | refine blk_alloc ?_ _)); exact BK233.out) hb); have n1_ := Aside0.mk (below_step (by repeat (first | (with_reducible first | exact HB.out | apply below_alloc | apply pw_below_drewN | apply below_drew1 | refine below_set ?_ GE233.out) | exact HB.out)) hb); have n2_ := Aside0.mk (hbox); have n3_ := Aside0.mk ((by rw [hg]; exact (below_size (by repeat (first | (with_reducible first | exact HB.out | apply below_alloc | apply pw_below_drewN | apply below_drew1 | refine below_set ?_ GE233.out) | exact HB.out))) : w.heap.size ≤ gb234)); have n4_ := Aside0.mk ((by rw [hg]; exact (below_size (by repeat (first | (with_reducible first | exact HB.out | apply below_alloc | apply pw_below_drewN | apply below_drew1 | refine below_set ?_ GE233.out) | exact HB.out))) : w.heap.size ≤ gb234)); have n5_ := Aside0.mk ((by rw [hg]; exact Nat.ne_of_lt (blk_lt (g := gb233) (o := .cells #[.int .u64 a0_0, .int .u64 a0_1] 66 (0, 0)) (by (with_reducible repeat (first | refine blk_drewN ?_ _ | refine blk_drew ?_ | refine blk_alloc ?_ _)); exact BK233.out)) : gb233 ≠ gb234)); have n6_ := Aside0.mk ((by rw [hg]; exact Nat.ne_of_gt (blk_lt (g := gb233) (o := .cells #[.int .u64 a0_0, .int .u64 a0_1] 66 (0, 0)) (by (with_reducible repeat (first | refine blk_drewN ?_ _ | refine blk_drew ?_ | refine blk_alloc ?_ _)); exact BK233.out)) : gb234 ≠ gb233)); clear BK233; clear HB; have BK233 := n0_; have HB := n1_; have BK234 := n2_; have GW234 := n3_; have GE234 := n4_; have NB233_234 := n5_; have NB234_233 := n6_; clear n0_ n1_ n2_ n3_ n4_ n5_ n6_; clear hb hbox hg) | ((with_reducible refine gate_dst (N := 4) rfl ?_); refine box_event ?hg (N := 4) ?hd (cs := #[.int .u64 0, .int .u64 0]) (t := 66) ?hr ?_; (case hd => rfl); (case hg => rfl); (case hr => first | (go_simp; done) | (go_simp; rfl)); intro gb235 hg w25 hbox hb; have n0_ := Aside0.mk (blk_below (g := gb233) (o := .cells #[.int .u64 a0_0, .int .u64 a0_1] 66 (0, 0)) (by (with_reducible repeat (first | refine blk_drewN ?_ _ | refine blk_drew ?_ | refine blk_alloc ?_ _)); exact BK233.out) hb); have n1_ := Aside0.mk (blk_below (g := gb234) (o := .cells #[.int .u64 a1_0, .int .u64 a1_1] 66 (0, 0)) (by (with_reducible repeat (first | refine blk_drewN ?_ _ | refine blk_drew ?_ | refine blk_alloc ?_ _)); exact BK234.out) hb); have n2_ := Aside0.mk (below_step (by repeat (first | (with_reducible first | exact HB.out | apply below_alloc | apply pw_below_drewN | apply below_drew1 | refine below_set ?_ GE233.out | refine below_set ?_ GE234.out) | exact HB.out)) hb); have n3_ := Aside0.mk (hbox); have n4_ := Aside0.mk ((by rw [hg]; exact (below_size (by repeat (first | (with_reducible first | exact HB.out | apply below_alloc | apply pw_below_drewN | apply below_drew1 | refine below_set ?_ GE233.out | refine below_set ?_ GE234.out) | exact HB.out))) : w.heap.size ≤ gb235)); have n5_ := Aside0.mk ((by rw [hg]; exact (below_size (by repeat (first | (with_reducible first | exact HB.out | apply below_alloc | apply pw_below_drewN | apply below_drew1 | refine below_set ?_ GE233.out | refine below_set ?_ GE234.out) | exact HB.out))) : w.heap.size ≤ gb235)); have n6_ := Aside0.mk ((by rw [hg]; exact Nat.ne_of_lt (blk_lt (g := gb233) (o := .cells #[.int .u64 a0_0, .int .u64 a0_1] 66 (0, 0)) (by (with_reducible repeat (first | refine blk_drewN ?_ _ | refine blk_drew ?_ | refine blk_alloc ?_ _)); exact BK233.out)) : gb233 ≠ gb235)); have n7_ := Aside0.mk ((by rw [hg]; exact Nat.ne_of_gt (blk_lt (g := gb233) (o := .cells #[.int .u64 a0_0, .int .u64 a0_1] 66 (0, 0)) (by (with_reducible repeat (first | refine blk_drewN ?_ _ | refine blk_drew ?_ | refine blk_alloc ?_ _)); exact BK233.out)) : gb235 ≠ gb233)); have n8_ := Aside0.mk ((by rw [hg]; exact Nat.ne_of_lt (blk_lt (g := gb234) (o := .cells #[.int .u64 a1_0, .int .u64 a1_1] 66 (0, 0)) (by (with_reducible repeat (first | refine blk_drewN ?_ _ | refine blk_drew ?_ | refine blk_alloc ?_ _)); exact BK234.out)) : gb234 ≠ gb235)); have n9_ := Aside0.mk ((by rw [hg]; exact Nat.ne_of_gt (blk_lt (g := gb234) (o := .cells #[.int .u64 a1_0, .int .u64 a1_1] 66 (0, 0)) (by (with_reducible repeat (first | refine blk_drewN ?_ _ | refine blk_drew ?_ | refine blk_alloc ?_ _)); exact BK234.out)) : gb235 ≠ gb234)); clear BK233; clear BK234; clear HB; have BK233 := n0_; have BK234 := n1_; have HB := n2_; have BK235 := n3_; have GW235 := n4_; have GE235 := n5_; have NB233_235 := n6_; have NB235_233 := n7_; have NB234_235 := n8_; have NB235_234 := n9_; clear n0_ n1_ n2_ n3_ n4_ n5_ n6_ n7_ n8_ n9_; clear hb hbox hg; have hnb26 := NB233_234.out; have hnc26 := NB234_233.out; have hnb27 := NB233_235.out; have hnc27 := NB235_233.out; have hcz28_0 : w25.cell? ⟨gb233, 0, none⟩ = some (.int .u64 a0_0) := (blk_cell BK233.out 0).trans rfl; have hcz28_1 : w25.cell? ⟨gb233, 1, none⟩ = some (.int .u64 a0_1) := (blk_cell BK233.out 1).trans rfl; have hfz28_0 := blk_frozen BK233.out 0; have hfz28_1 := blk_frozen BK233.out 1; have hnb29 := NB234_235.out; have hnc29 := NB235_234.out; have hcz30_0 : w25.cell? ⟨gb234, 0, none⟩ = some (.int .u64 a1_0) := (blk_cell BK234.out 0).trans rfl; have hcz30_1 : w25.cell? ⟨gb234, 1, none⟩ = some (.int .u64 a1_1) := (blk_cell BK234.out 1).trans rfl; have hfz30_0 := blk_frozen BK234.out 0; have hfz30_1 := blk_frozen BK234.out 1; have hcz31_0 : w25.cell? ⟨gb235, 0, none⟩ = some (.int .u64 0) := (blk_cell BK235.out 0).trans rfl; have hcz31_1 : w25.cell? ⟨gb235, 1, none⟩ = some (.int .u64 0) := (blk_cell BK235.out 1).trans rfl; have hfz31_0 := blk_frozen BK235.out 0; have hfz31_1 := blk_frozen BK235.out 1))
    repeat (go_quiet (first | ((with_reducible refine gate_dst (N := 2) rfl ?_); refine box_event ?hg (N := 2) ?hd (cs := #[.int .u64 a0_0, .int .u64 a0_1]) (t := 66) ?hr ?_; (case hd => rfl); (case hg => rfl); (case hr => first | (go_simp; done) | (go_simp; rfl)); intro gb233 hg w23 hbox hb; have n0_ := Aside0.mk (below_step (by repeat (first | (with_reducible first | exact HB.out | apply below_alloc | apply pw_below_drewN | apply below_drew1) | exact HB.out)) hb); have n1_ := Aside0.mk (hbox); have n2_ := Aside0.mk ((by rw [hg]; exact (below_size (by repeat (first | (with_reducible first | exact HB.out | apply below_alloc | apply pw_below_drewN | apply below_drew1) | exact HB.out))) : w.heap.size ≤ gb233)); have n3_ := Aside0.mk ((by rw [hg]; exact (below_size (by repeat (first | (with_reducible first | exact HB.out | apply below_alloc | apply pw_below_drewN | apply below_drew1) | exact HB.out))) : w.heap.size ≤ gb233)); clear HB; have HB := n0_; have BK233 := n1_; have GW233 := n2_; have GE233 := n3_; clear n0_ n1_ n2_ n3_; clear hb hbox hg) | ((with_reducible refine gate_dst (N := 3) rfl ?_); refine box_event ?hg (N := 3) ?hd (cs := #[.int .u64 a1_0, .int .u64 a1_1]) (t := 66) ?hr ?_; (case hd => rfl); (case hg => rfl); (case hr => first | (go_simp; done) | (go_simp; rfl)); intro gb234 hg w24 hbox hb; have n0_ := Aside0.mk (blk_below (g := gb233) (o := .cells #[.int .u64 a0_0, .int .u64 a0_1] 66 (0, 0)) (by (with_reducible repeat (first | refine blk_drewN ?_ _ | refine blk_drew ?_ | refine blk_alloc ?_ _)); exact BK233.out) hb); have n1_ := Aside0.mk (below_step (by repeat (first | (with_reducible first | exact HB.out | apply below_alloc | apply pw_below_drewN | apply below_drew1 | refine below_set ?_ GE233.out) | exact HB.out)) hb); have n2_ := Aside0.mk (hbox); have n3_ := Aside0.mk ((by rw [hg]; exact (below_size (by repeat (first | (with_reducible first | exact HB.out | apply below_alloc | apply pw_below_drewN | apply below_drew1 | refine below_set ?_ GE233.out) | exact HB.out))) : w.heap.size ≤ gb234)); have n4_ := Aside0.mk ((by rw [hg]; exact (below_size (by repeat (first | (with_reducible first | exact HB.out | apply below_alloc | apply pw_below_drewN | apply below_drew1 | refine below_set ?_ GE233.out) | exact HB.out))) : w.heap.size ≤ gb234)); have n5_ := Aside0.mk ((by rw [hg]; exact Nat.ne_of_lt (blk_lt (g := gb233) (o := .cells #[.int .u64 a0_0, .int .u64 a0_1] 66 (0, 0)) (by (with_reducible repeat (first | refine blk_drewN ?_ _ | refine blk_drew ?_ | refine blk_alloc ?_ _)); exact BK233.out)) : gb233 ≠ gb234)); have n6_ := Aside0.mk ((by rw [hg]; exact Nat.ne_of_gt (blk_lt (g := gb233) (o := .cells #[.int .u64 a0_0, .int .u64 a0_1] 66 (0, 0)) (by (with_reducible repeat (first | refine blk_drewN ?_ _ | refine blk_drew ?_ | refine blk_alloc ?_ _)); exact BK233.out)) : gb234 ≠ gb233)); clear BK233; clear HB; have BK233 := n0_; have HB := n1_; have BK234 := n2_; have GW234 := n3_; have GE234 := n4_; have NB233_234 := n5_; have NB234_233 := n6_; clear n0_ n1_ n2_ n3_ n4_ n5_ n6_; clear hb hbox hg) | ((with_reducible refine gate_dst (N := 4) rfl ?_); refine box_event ?hg (N := 4) ?hd (cs := #[.int .u64 0, .int .u64 0]) (t := 66) ?hr ?_; (case hd => rfl); (case hg => rfl); (case hr => first | (go_simp; done) | (go_simp; rfl)); intro gb235 hg w25 hbox hb; have n0_ := Aside0.mk (blk_below (g := gb233) (o := .cells #[.int .u64 a0_0, .int .u64 a0_1] 66 (0, 0)) (by (with_reducible repeat (first | refine blk_drewN ?_ _ | refine blk_drew ?_ | refine blk_alloc ?_ _)); exact BK233.out) hb); have n1_ := Aside0.mk (blk_below (g := gb234) (o := .cells #[.int .u64 a1_0, .int .u64 a1_1] 66 (0, 0)) (by (with_reducible repeat (first | refine blk_drewN ?_ _ | refine blk_drew ?_ | refine blk_alloc ?_ _)); exact BK234.out) hb); have n2_ := Aside0.mk (below_step (by repeat (first | (with_reducible first | exact HB.out | apply below_alloc | apply pw_below_drewN | apply below_drew1 | refine below_set ?_ GE233.out | refine below_set ?_ GE234.out) | exact HB.out)) hb); have n3_ := Aside0.mk (hbox); have n4_ := Aside0.mk ((by rw [hg]; exact (below_size (by repeat (first | (with_reducible first | exact HB.out | apply below_alloc | apply pw_below_drewN | apply below_drew1 | refine below_set ?_ GE233.out | refine below_set ?_ GE234.out) | exact HB.out))) : w.heap.size ≤ gb235)); have n5_ := Aside0.mk ((by rw [hg]; exact (below_size (by repeat (first | (with_reducible first | exact HB.out | apply below_alloc | apply pw_below_drewN | apply below_drew1 | refine below_set ?_ GE233.out | refine below_set ?_ GE234.out) | exact HB.out))) : w.heap.size ≤ gb235)); have n6_ := Aside0.mk ((by rw [hg]; exact Nat.ne_of_lt (blk_lt (g := gb233) (o := .cells #[.int .u64 a0_0, .int .u64 a0_1] 66 (0, 0)) (by (with_reducible repeat (first | refine blk_drewN ?_ _ | refine blk_drew ?_ | refine blk_alloc ?_ _)); exact BK233.out)) : gb233 ≠ gb235)); have n7_ := Aside0.mk ((by rw [hg]; exact Nat.ne_of_gt (blk_lt (g := gb233) (o := .cells #[.int .u64 a0_0, .int .u64 a0_1] 66 (0, 0)) (by (with_reducible repeat (first | refine blk_drewN ?_ _ | refine blk_drew ?_ | refine blk_alloc ?_ _)); exact BK233.out)) : gb235 ≠ gb233)); have n8_ := Aside0.mk ((by rw [hg]; exact Nat.ne_of_lt (blk_lt (g := gb234) (o := .cells #[.int .u64 a1_0, .int .u64 a1_1] 66 (0, 0)) (by (with_reducible repeat (first | refine blk_drewN ?_ _ | refine blk_drew ?_ | refine blk_alloc ?_ _)); exact BK234.out)) : gb234 ≠ gb235)); have n9_ := Aside0.mk ((by rw [hg]; exact Nat.ne_of_gt (blk_lt (g := gb234) (o := .cells #[.int .u64 a1_0, .int .u64 a1_1] 66 (0, 0)) (by (with_reducible repeat (first | refine blk_drewN ?_ _ | refine blk_drew ?_ | refine blk_alloc ?_ _)); exact BK234.out)) : gb235 ≠ gb234)); clear BK233; clear BK234; clear HB; have BK233 := n0_; have BK234 := n1_; have HB := n2_; have BK235 := n3_; have GW235 := n4_; have GE235 := n5_; have NB233_235 := n6_; have NB235_233 := n7_; have NB234_235 := n8_; have NB235_234 := n9_; clear n0_ n1_ n2_ n3_ n4_ n5_ n6_ n7_ n8_ n9_; clear hb hbox hg; have hnb26 := NB233_234.out; have hnc26 := NB234_233.out; have hnb27 := NB233_235.out; have hnc27 := NB235_233.out; have hcz28_0 : w25.cell? ⟨gb233, 0, none⟩ = some (.int .u64 a0_0) := (blk_cell BK233.out 0).trans rfl; have hcz28_1 : w25.cell? ⟨gb233, 1, none⟩ = some (.int .u64 a0_1) := (blk_cell BK233.out 1).trans rfl; have hfz28_0 := blk_frozen BK233.out 0; have hfz28_1 := blk_frozen BK233.out 1; have hnb29 := NB234_235.out; have hnc29 := NB235_234.out; have hcz30_0 : w25.cell? ⟨gb234, 0, none⟩ = some (.int .u64 a1_0) := (blk_cell BK234.out 0).trans rfl; have hcz30_1 : w25.cell? ⟨gb234, 1, none⟩ = some (.int .u64 a1_1) := (blk_cell BK234.out 1).trans rfl; have hfz30_0 := blk_frozen BK234.out 0; have hfz30_1 := blk_frozen BK234.out 1; have hcz31_0 : w25.cell? ⟨gb235, 0, none⟩ = some (.int .u64 0) := (blk_cell BK235.out 0).trans rfl; have hcz31_1 : w25.cell? ⟨gb235, 1, none⟩ = some (.int .u64 0) := (blk_cell BK235.out 1).trans rfl; have hfz31_0 := blk_frozen BK235.out 0; have hfz31_1 := blk_frozen BK235.out 1)); try go_wp2_with (first | ((with_reducible refine gate_dst (N := 2) rfl ?_); refine box_event ?hg (N := 2) ?hd (cs := #[.int .u64 a0_0, .int .u64 a0_1]) (t := 66) ?hr ?_; (case hd => rfl); (case hg => rfl); (case hr => first | (go_simp; done) | (go_simp; rfl)); intro gb233 hg w23 hbox hb; have n0_ := Aside0.mk (below_step (by repeat (first | (with_reducible first | exact HB.out | apply below_alloc | apply pw_below_drewN | apply below_drew1) | exact HB.out)) hb); have n1_ := Aside0.mk (hbox); have n2_ := Aside0.mk ((by rw [hg]; exact (below_size (by repeat (first | (with_reducible first | exact HB.out | apply below_alloc | apply pw_below_drewN | apply below_drew1) | exact HB.out))) : w.heap.size ≤ gb233)); have n3_ := Aside0.mk ((by rw [hg]; exact (below_size (by repeat (first | (with_reducible first | exact HB.out | apply below_alloc | apply pw_below_drewN | apply below_drew1) | exact HB.out))) : w.heap.size ≤ gb233)); clear HB; have HB := n0_; have BK233 := n1_; have GW233 := n2_; have GE233 := n3_; clear n0_ n1_ n2_ n3_; clear hb hbox hg) | ((with_reducible refine gate_dst (N := 3) rfl ?_); refine box_event ?hg (N := 3) ?hd (cs := #[.int .u64 a1_0, .int .u64 a1_1]) (t := 66) ?hr ?_; (case hd => rfl); (case hg => rfl); (case hr => first | (go_simp; done) | (go_simp; rfl)); intro gb234 hg w24 hbox hb; have n0_ := Aside0.mk (blk_below (g := gb233) (o := .cells #[.int .u64 a0_0, .int .u64 a0_1] 66 (0, 0)) (by (with_reducible repeat (first | refine blk_drewN ?_ _ | refine blk_drew ?_ | refine blk_alloc ?_ _)); exact BK233.out) hb); have n1_ := Aside0.mk (below_step (by repeat (first | (with_reducible first | exact HB.out | apply below_alloc | apply pw_below_drewN | apply below_drew1 | refine below_set ?_ GE233.out) | exact HB.out)) hb); have n2_ := Aside0.mk (hbox); have n3_ := Aside0.mk ((by rw [hg]; exact (below_size (by repeat (first | (with_reducible first | exact HB.out | apply below_alloc | apply pw_below_drewN | apply below_drew1 | refine below_set ?_ GE233.out) | exact HB.out))) : w.heap.size ≤ gb234)); have n4_ := Aside0.mk ((by rw [hg]; exact (below_size (by repeat (first | (with_reducible first | exact HB.out | apply below_alloc | apply pw_below_drewN | apply below_drew1 | refine below_set ?_ GE233.out) | exact HB.out))) : w.heap.size ≤ gb234)); have n5_ := Aside0.mk ((by rw [hg]; exact Nat.ne_of_lt (blk_lt (g := gb233) (o := .cells #[.int .u64 a0_0, .int .u64 a0_1] 66 (0, 0)) (by (with_reducible repeat (first | refine blk_drewN ?_ _ | refine blk_drew ?_ | refine blk_alloc ?_ _)); exact BK233.out)) : gb233 ≠ gb234)); have n6_ := Aside0.mk ((by rw [hg]; exact Nat.ne_of_gt (blk_lt (g := gb233) (o := .cells #[.int .u64 a0_0, .int .u64 a0_1] 66 (0, 0)) (by (with_reducible repeat (first | refine blk_drewN ?_ _ | refine blk_drew ?_ | refine blk_alloc ?_ _)); exact BK233.out)) : gb234 ≠ gb233)); clear BK233; clear HB; have BK233 := n0_; have HB := n1_; have BK234 := n2_; have GW234 := n3_; have GE234 := n4_; have NB233_234 := n5_; have NB234_233 := n6_; clear n0_ n1_ n2_ n3_ n4_ n5_ n6_; clear hb hbox hg) | ((with_reducible refine gate_dst (N := 4) rfl ?_); refine box_event ?hg (N := 4) ?hd (cs := #[.int .u64 0, .int .u64 0]) (t := 66) ?hr ?_; (case hd => rfl); (case hg => rfl); (case hr => first | (go_simp; done) | (go_simp; rfl)); intro gb235 hg w25 hbox hb; have n0_ := Aside0.mk (blk_below (g := gb233) (o := .cells #[.int .u64 a0_0, .int .u64 a0_1] 66 (0, 0)) (by (with_reducible repeat (first | refine blk_drewN ?_ _ | refine blk_drew ?_ | refine blk_alloc ?_ _)); exact BK233.out) hb); have n1_ := Aside0.mk (blk_below (g := gb234) (o := .cells #[.int .u64 a1_0, .int .u64 a1_1] 66 (0, 0)) (by (with_reducible repeat (first | refine blk_drewN ?_ _ | refine blk_drew ?_ | refine blk_alloc ?_ _)); exact BK234.out) hb); have n2_ := Aside0.mk (below_step (by repeat (first | (with_reducible first | exact HB.out | apply below_alloc | apply pw_below_drewN | apply below_drew1 | refine below_set ?_ GE233.out | refine below_set ?_ GE234.out) | exact HB.out)) hb); have n3_ := Aside0.mk (hbox); have n4_ := Aside0.mk ((by rw [hg]; exact (below_size (by repeat (first | (with_reducible first | exact HB.out | apply below_alloc | apply pw_below_drewN | apply below_drew1 | refine below_set ?_ GE233.out | refine below_set ?_ GE234.out) | exact HB.out))) : w.heap.size ≤ gb235)); have n5_ := Aside0.mk ((by rw [hg]; exact (below_size (by repeat (first | (with_reducible first | exact HB.out | apply below_alloc | apply pw_below_drewN | apply below_drew1 | refine below_set ?_ GE233.out | refine below_set ?_ GE234.out) | exact HB.out))) : w.heap.size ≤ gb235)); have n6_ := Aside0.mk ((by rw [hg]; exact Nat.ne_of_lt (blk_lt (g := gb233) (o := .cells #[.int .u64 a0_0, .int .u64 a0_1] 66 (0, 0)) (by (with_reducible repeat (first | refine blk_drewN ?_ _ | refine blk_drew ?_ | refine blk_alloc ?_ _)); exact BK233.out)) : gb233 ≠ gb235)); have n7_ := Aside0.mk ((by rw [hg]; exact Nat.ne_of_gt (blk_lt (g := gb233) (o := .cells #[.int .u64 a0_0, .int .u64 a0_1] 66 (0, 0)) (by (with_reducible repeat (first | refine blk_drewN ?_ _ | refine blk_drew ?_ | refine blk_alloc ?_ _)); exact BK233.out)) : gb235 ≠ gb233)); have n8_ := Aside0.mk ((by rw [hg]; exact Nat.ne_of_lt (blk_lt (g := gb234) (o := .cells #[.int .u64 a1_0, .int .u64 a1_1] 66 (0, 0)) (by (with_reducible repeat (first | refine blk_drewN ?_ _ | refine blk_drew ?_ | refine blk_alloc ?_ _)); exact BK234.out)) : gb234 ≠ gb235)); have n9_ := Aside0.mk ((by rw [hg]; exact Nat.ne_of_gt (blk_lt (g := gb234) (o := .cells #[.int .u64 a1_0, .int .u64 a1_1] 66 (0, 0)) (by (with_reducible repeat (first | refine blk_drewN ?_ _ | refine blk_drew ?_ | refine blk_alloc ?_ _)); exact BK234.out)) : gb235 ≠ gb234)); clear BK233; clear BK234; clear HB; have BK233 := n0_; have BK234 := n1_; have HB := n2_; have BK235 := n3_; have GW235 := n4_; have GE235 := n5_; have NB233_235 := n6_; have NB235_233 := n7_; have NB234_235 := n8_; have NB235_234 := n9_; clear n0_ n1_ n2_ n3_ n4_ n5_ n6_ n7_ n8_ n9_; clear hb hbox hg; have hnb26 := NB233_234.out; have hnc26 := NB234_233.out; have hnb27 := NB233_235.out; have hnc27 := NB235_233.out; have hcz28_0 : w25.cell? ⟨gb233, 0, none⟩ = some (.int .u64 a0_0) := (blk_cell BK233.out 0).trans rfl; have hcz28_1 : w25.cell? ⟨gb233, 1, none⟩ = some (.int .u64 a0_1) := (blk_cell BK233.out 1).trans rfl; have hfz28_0 := blk_frozen BK233.out 0; have hfz28_1 := blk_frozen BK233.out 1; have hnb29 := NB234_235.out; have hnc29 := NB235_234.out; have hcz30_0 : w25.cell? ⟨gb234, 0, none⟩ = some (.int .u64 a1_0) := (blk_cell BK234.out 0).trans rfl; have hcz30_1 : w25.cell? ⟨gb234, 1, none⟩ = some (.int .u64 a1_1) := (blk_cell BK234.out 1).trans rfl; have hfz30_0 := blk_frozen BK234.out 0; have hfz30_1 := blk_frozen BK234.out 1; have hcz31_0 : w25.cell? ⟨gb235, 0, none⟩ = some (.int .u64 0) := (blk_cell BK235.out 0).trans rfl; have hcz31_1 : w25.cell? ⟨gb235, 1, none⟩ = some (.int .u64 0) := (blk_cell BK235.out 1).trans rfl; have hfz31_0 := blk_frozen BK235.out 0; have hfz31_1 := blk_frozen BK235.out 1)))
    refine bodyPost_ret (results_ct rfl _ _ gb235 66 #[.int .u64 (IntKind.u64.wrap (a0_0 + a1_0)), .int .u64 (IntKind.u64.wrap (a0_1 + a1_1))] (0, 0) _ rfl (by (with_reducible repeat (first | refine blk_drewN ?_ _ | refine blk_drew ?_ | refine blk_alloc ?_ _)); refine blk_put (cs := #[.int .u64 (IntKind.u64.wrap (a0_0 + a1_0)), .int .u64 0]) ?_ 1 _ rfl; (with_reducible repeat (first | refine blk_drewN ?_ _ | refine blk_drew ?_ | refine blk_alloc ?_ _)); refine blk_put (cs := #[.int .u64 0, .int .u64 0]) ?_ 0 _ rfl; (with_reducible repeat (first | refine blk_drewN ?_ _ | refine blk_drew ?_ | refine blk_alloc ?_ _)); exact BK235.out) Try.underlying66 rfl (by kernel_rfl)) rfl ?_
    exact ⟨by first | rfl | (simp [errW_none, errW_some] <;> rfl) | (simp [*, errW_none, errW_some] <;> rfl) | (simp (disch := first | assumption | omega) only [Int.tdiv_eq_ediv_of_nonneg, Int.tmod_eq_emod_of_nonneg]; rfl), by repeat (first | (with_reducible first | exact HB.out | apply below_alloc | apply pw_below_drewN | apply below_drew1 | refine below_set ?_ GE233.out | refine below_set ?_ GE234.out | refine below_set ?_ GE235.out) | exact HB.out)⟩

end Go.Proofs.Ytpmdlhncfggjkaa.PX
end
section
namespace Go.Proofs.Ytpmdlhncfggjkaa.PX
open Go.RowKit Go.Proofs.YtpmdlhncfggjkaaW.PrintWords Go.Proofs.YtpmdlhncfggjkaaW.PrintLast Go.Proofs.YtpmdlhncfggjkaaW.PrintMore
attribute [local go_sem] max2_int min2_int max_two min_two max_three min_three max_four min_four   -- for this text's walks alone
set_option linter.unusedVariables false
set_option linter.unusedSimpArgs false

/-! ### customsref01_DivMod: function 38 -/
def customsref01_DivMod.l0 : Nat → Int → Int → Int → Int → Int → Int → Int → Option (Int × Int × Int)
  | 0, _, _, _, _, _, _, _ => none
  | k + 1, x1, x7, x8, x237000, x237001, x239000, x239001 => if x8 ≥ 0 then (if 0 ≤ (Go.bits .and .i64 x8 63) then (if x8 > 63 then (if 0 ≤ (wrap64 (x8 - 64)) then ((customsref01_Add.f x239000 x239001 x239000 x239001).bind fun bt239 => (if (x7 / 9223372036854775808) = 1 then (customsref01_DivMod.l0 k x1 (IntKind.u64.wrap ((Go.bits .or .u64 (IntKind.u64.wrap (x7 * 2)) (Go.bits .and .u64 (shr .u64 x237000 (wrap64 (x8 - 64))) 1)) - x1)) (wrap64 (x8 - 1)) x237000 x237001 bt239.1 (Go.bits .or .u64 bt239.2.1 1)) else (if (Go.bits .or .u64 (IntKind.u64.wrap (x7 * 2)) (Go.bits .and .u64 (shr .u64 x237000 (wrap64 (x8 - 64))) 1)) ≥ x1 then (customsref01_DivMod.l0 k x1 (IntKind.u64.wrap ((Go.bits .or .u64 (IntKind.u64.wrap (x7 * 2)) (Go.bits .and .u64 (shr .u64 x237000 (wrap64 (x8 - 64))) 1)) - x1)) (wrap64 (x8 - 1)) x237000 x237001 bt239.1 (Go.bits .or .u64 bt239.2.1 1)) else (customsref01_DivMod.l0 k x1 (Go.bits .or .u64 (IntKind.u64.wrap (x7 * 2)) (Go.bits .and .u64 (shr .u64 x237000 (wrap64 (x8 - 64))) 1)) (wrap64 (x8 - 1)) x237000 x237001 bt239.1 bt239.2.1)))) else (none)) else ((customsref01_Add.f x239000 x239001 x239000 x239001).bind fun bt242 => (if (x7 / 9223372036854775808) = 1 then (customsref01_DivMod.l0 k x1 (IntKind.u64.wrap ((Go.bits .or .u64 (IntKind.u64.wrap (x7 * 2)) (Go.bits .and .u64 (shr .u64 x237001 (Go.bits .and .i64 x8 63)) 1)) - x1)) (wrap64 (x8 - 1)) x237000 x237001 bt242.1 (Go.bits .or .u64 bt242.2.1 1)) else (if (Go.bits .or .u64 (IntKind.u64.wrap (x7 * 2)) (Go.bits .and .u64 (shr .u64 x237001 (Go.bits .and .i64 x8 63)) 1)) ≥ x1 then (customsref01_DivMod.l0 k x1 (IntKind.u64.wrap ((Go.bits .or .u64 (IntKind.u64.wrap (x7 * 2)) (Go.bits .and .u64 (shr .u64 x237001 (Go.bits .and .i64 x8 63)) 1)) - x1)) (wrap64 (x8 - 1)) x237000 x237001 bt242.1 (Go.bits .or .u64 bt242.2.1 1)) else (customsref01_DivMod.l0 k x1 (Go.bits .or .u64 (IntKind.u64.wrap (x7 * 2)) (Go.bits .and .u64 (shr .u64 x237001 (Go.bits .and .i64 x8 63)) 1)) (wrap64 (x8 - 1)) x237000 x237001 bt242.1 bt242.2.1))))) else (none)) else (some (x239000, x239001, x7))
def customsref01_DivMod.f (k : Nat) (a0_0 : Int) (a0_1 : Int) (a1 : Int) : Option (Int × Int × Int) := customsref01_DivMod.l0 k a1 0 127 a0_0 a0_1 0 0
set_option maxHeartbeats 8000000 in
set_option maxRecDepth 100000 in
theorem customsref01_DivMod.calls (k : Nat) (a0_0 : Int) (a0_1 : Int) (a1 : Int) (r1 : Int) (r2 : Int) (r3 : Int) (w : World) (h : customsref01_DivMod.f k a0_0 a0_1 a1 = some (r1, r2, r3)) :
    Calls Try.prog 38 #[.agg #[.int .u64 a0_0, .int .u64 a0_1], .int .u64 a1] w fun e w' => e = .returned (.tuple #[.agg #[.int .u64 r1, .int .u64 r2], .int .u64 r3]) ∧ Below w.heap.size w w' := by
  have hu66 := Try.underlying66
  have HB := Aside0.mk (Below.refl w.heap.size w)
  have H : (customsref01_DivMod.l0 k a1 0 127 a0_0 a0_1 0 0) = some (r1, r2, r3) := h
  clear h
  have H' := Aside0.mk H
  clear H
  go_enter Try.func38, Try.ntmps38
  go_wp2_with (first | ((with_reducible refine gate_dst (N := 2) rfl ?_); refine box_event ?hg (N := 2) ?hd (cs := #[.int .u64 a0_0, .int .u64 a0_1]) (t := 66) ?hr ?_; (case hd => rfl); (case hg => rfl); (case hr => first | (go_simp; done) | (go_simp; rfl)); intro gb236 hg w3 hbox hb; have n0_ := Aside0.mk (below_step (by repeat (first | (with_reducible first | exact HB.out | apply below_alloc | apply pw_below_drewN | apply below_drew1) | exact HB.out)) hb); have n1_ := Aside0.mk (hbox); have n2_ := Aside0.mk ((by rw [hg]; exact (below_size (by repeat (first | (with_reducible first | exact HB.out | apply below_alloc | apply pw_below_drewN | apply below_drew1) | exact HB.out))) : w.heap.size ≤ gb236)); have n3_ := Aside0.mk ((by rw [hg]; exact (below_size (by repeat (first | (with_reducible first | exact HB.out | apply below_alloc | apply pw_below_drewN | apply below_drew1) | exact HB.out))) : w.heap.size ≤ gb236)); clear HB; have HB := n0_; have BK236 := n1_; have GW236 := n2_; have GE236 := n3_; clear n0_ n1_ n2_ n3_; clear hb hbox hg) | ((with_reducible refine gate_dst (N := 4) rfl ?_); refine box_event ?hg (N := 4) ?hd (cs := #[.int .u64 0, .int .u64 0]) (t := 66) ?hr ?_; (case hd => rfl); (case hg => rfl); (case hr => first | (go_simp; done) | (go_simp; rfl)); intro gb237 hg w4 hbox hb; have n0_ := Aside0.mk (blk_below (g := gb236) (o := .cells #[.int .u64 a0_0, .int .u64 a0_1] 66 (0, 0)) (by (with_reducible repeat (first | refine blk_drewN ?_ _ | refine blk_drew ?_ | refine blk_alloc ?_ _)); exact BK236.out) hb); have n1_ := Aside0.mk (below_step (by repeat (first | (with_reducible first | exact HB.out | apply below_alloc | apply pw_below_drewN | apply below_drew1 | refine below_set ?_ GE236.out) | exact HB.out)) hb); have n2_ := Aside0.mk (hbox); have n3_ := Aside0.mk ((by rw [hg]; exact (below_size (by repeat (first | (with_reducible first | exact HB.out | apply below_alloc | apply pw_below_drewN | apply below_drew1 | refine below_set ?_ GE236.out) | exact HB.out))) : w.heap.size ≤ gb237)); have n4_ := Aside0.mk ((by rw [hg]; exact (below_size (by repeat (first | (with_reducible first | exact HB.out | apply below_alloc | apply pw_below_drewN | apply below_drew1 | refine below_set ?_ GE236.out) | exact HB.out))) : w.heap.size ≤ gb237)); have n5_ := Aside0.mk ((by rw [hg]; exact Nat.ne_of_lt (blk_lt (g := gb236) (o := .cells #[.int .u64 a0_0, .int .u64 a0_1] 66 (0, 0)) (by (with_reducible repeat (first | refine blk_drewN ?_ _ | refine blk_drew ?_ | refine blk_alloc ?_ _)); exact BK236.out)) : gb236 ≠ gb237)); have n6_ := Aside0.mk ((by rw [hg]; exact Nat.ne_of_gt (blk_lt (g := gb236) (o := .cells #[.int .u64 a0_0, .int .u64 a0_1] 66 (0, 0)) (by (with_reducible repeat (first | refine blk_drewN ?_ _ | refine blk_drew ?_ | refine blk_alloc ?_ _)); exact BK236.out)) : gb237 ≠ gb236)); clear BK236; clear HB; have BK236 := n0_; have HB := n1_; have BK237 := n2_; have GW237 := n3_; have GE237 := n4_; have NB236_237 := n5_; have NB237_236 := n6_; clear n0_ n1_ n2_ n3_ n4_ n5_ n6_; clear hb hbox hg) | ((with_reducible refine gate_dst (N := 6) rfl ?_); refine box_event ?hg (N := 6) ?hd (cs := #[.int .u64 0, .int .u64 0]) (t := 66) ?hr ?_; (case hd => rfl); (case hg => rfl); (case hr => first | (go_simp; done) | (go_simp; rfl)); intro gb238 hg w5 hbox hb; have n0_ := Aside0.mk (blk_below (g := gb236) (o := .cells #[.int .u64 a0_0, .int .u64 a0_1] 66 (0, 0)) (by (with_reducible repeat (first | refine blk_drewN ?_ _ | refine blk_drew ?_ | refine blk_alloc ?_ _)); exact BK236.out) hb); have n1_ := Aside0.mk (blk_below (g := gb237) (o := .cells #[.int .u64 0, .int .u64 0] 66 (0, 0)) (by (with_reducible repeat (first | refine blk_drewN ?_ _ | refine blk_drew ?_ | refine blk_alloc ?_ _)); exact BK237.out) hb); have n2_ := Aside0.mk (below_step (by repeat (first | (with_reducible first | exact HB.out | apply below_alloc | apply pw_below_drewN | apply below_drew1 | refine below_set ?_ GE236.out | refine below_set ?_ GE237.out) | exact HB.out)) hb); have n3_ := Aside0.mk (hbox); have n4_ := Aside0.mk ((by rw [hg]; exact (below_size (by repeat (first | (with_reducible first | exact HB.out | apply below_alloc | apply pw_below_drewN | apply below_drew1 | refine below_set ?_ GE236.out | refine below_set ?_ GE237.out) | exact HB.out))) : w.heap.size ≤ gb238)); have n5_ := Aside0.mk ((by rw [hg]; exact (below_size (by repeat (first | (with_reducible first | exact HB.out | apply below_alloc | apply pw_below_drewN | apply below_drew1 | refine below_set ?_ GE236.out | refine below_set ?_ GE237.out) | exact HB.out))) : w.heap.size ≤ gb238)); have n6_ := Aside0.mk ((by rw [hg]; exact Nat.ne_of_lt (blk_lt (g := gb236) (o := .cells #[.int .u64 a0_0, .int .u64 a0_1] 66 (0, 0)) (by (with_reducible repeat (first | refine blk_drewN ?_ _ | refine blk_drew ?_ | refine blk_alloc ?_ _)); exact BK236.out)) : gb236 ≠ gb238)); have n7_ := Aside0.mk ((by rw [hg]; exact Nat.ne_of_gt (blk_lt (g := gb236) (o := .cells #[.int .u64 a0_0, .int .u64 a0_1] 66 (0, 0)) (by (with_reducible repeat (first | refine blk_drewN ?_ _ | refine blk_drew ?_ | refine blk_alloc ?_ _)); exact BK236.out)) : gb238 ≠ gb236)); have n8_ := Aside0.mk ((by rw [hg]; exact Nat.ne_of_lt (blk_lt (g := gb237) (o := .cells #[.int .u64 0, .int .u64 0] 66 (0, 0)) (by (with_reducible repeat (first | refine blk_drewN ?_ _ | refine blk_drew ?_ | refine blk_alloc ?_ _)); exact BK237.out)) : gb237 ≠ gb238)); have n9_ := Aside0.mk ((by rw [hg]; exact Nat.ne_of_gt (blk_lt (g := gb237) (o := .cells #[.int .u64 0, .int .u64 0] 66 (0, 0)) (by (with_reducible repeat (first | refine blk_drewN ?_ _ | refine blk_drew ?_ | refine blk_alloc ?_ _)); exact BK237.out)) : gb238 ≠ gb237)); clear BK236; clear BK237; clear HB; have BK236 := n0_; have BK237 := n1_; have HB := n2_; have BK238 := n3_; have GW238 := n4_; have GE238 := n5_; have NB236_238 := n6_; have NB238_236 := n7_; have NB237_238 := n8_; have NB238_237 := n9_; clear n0_ n1_ n2_ n3_ n4_ n5_ n6_ n7_ n8_ n9_; clear hb hbox hg; have hnb6 := NB238_236.out; have hnc6 := NB236_238.out; have hnb7 := NB238_237.out; have hnc7 := NB237_238.out; have hcz8_0 : w5.cell? ⟨gb238, 0, none⟩ = some (.int .u64 0) := (blk_cell BK238.out 0).trans rfl; have hcz8_1 : w5.cell? ⟨gb238, 1, none⟩ = some (.int .u64 0) := (blk_cell BK238.out 1).trans rfl; have hfz8_0 := blk_frozen BK238.out 0; have hfz8_1 := blk_frozen BK238.out 1))
  go_loopg [7, 8] k (fun kq v7 v8 w' => ∃ (x7_1 : Int) (x8_1 : Int) (x239000_1 : Int) (x239001_1 : Int), v7 = .int .u64 x7_1 ∧ v8 = .int .i64 x8_1 ∧ Aside0 (customsref01_DivMod.l0 kq a1 x7_1 x8_1 a0_0 a0_1 x239000_1 x239001_1 = some (r1, r2, r3)) ∧ Aside0 (kq ≤ k) ∧ Aside0 (w'.heap[gb236]? = some (.cells #[.int .u64 a0_0, .int .u64 a0_1] 66 (0, 0))) ∧ Aside0 (w'.heap[gb237]? = some (.cells #[.int .u64 0, .int .u64 0] 66 (0, 0))) ∧ Aside0 (w'.heap[gb238]? = some (.cells #[.int .u64 x239000_1, .int .u64 x239001_1] 66 (0, 0))) ∧ Aside0 (Below w.heap.size w w'))
  case atStart => exact ⟨(0), (127), (0), (0), (by first | rfl | (simp; done) | (simp [*]; done)), (by first | rfl | (simp; done) | (simp [*]; done)), H', ⟨Nat.le_refl _⟩, ⟨by (with_reducible repeat (first | refine blk_drewN ?_ _ | refine blk_drew ?_ | refine blk_alloc ?_ _)); refine blk_far ?_ NB236_238.out _; (with_reducible repeat (first | refine blk_drewN ?_ _ | refine blk_drew ?_ | refine blk_alloc ?_ _)); refine blk_far ?_ NB236_238.out _; (with_reducible repeat (first | refine blk_drewN ?_ _ | refine blk_drew ?_ | refine blk_alloc ?_ _)); exact BK236.out⟩, ⟨by (with_reducible repeat (first | refine blk_drewN ?_ _ | refine blk_drew ?_ | refine blk_alloc ?_ _)); refine blk_far ?_ NB237_238.out _; (with_reducible repeat (first | refine blk_drewN ?_ _ | refine blk_drew ?_ | refine blk_alloc ?_ _)); refine blk_far ?_ NB237_238.out _; (with_reducible repeat (first | refine blk_drewN ?_ _ | refine blk_drew ?_ | refine blk_alloc ?_ _)); exact BK237.out⟩, ⟨by (with_reducible repeat (first | refine blk_drewN ?_ _ | refine blk_drew ?_ | refine blk_alloc ?_ _)); refine blk_put (cs := #[.int .u64 0, .int .u64 0]) ?_ 1 _ rfl; (with_reducible repeat (first | refine blk_drewN ?_ _ | refine blk_drew ?_ | refine blk_alloc ?_ _)); refine blk_put (cs := #[.int .u64 0, .int .u64 0]) ?_ 0 _ rfl; (with_reducible repeat (first | refine blk_drewN ?_ _ | refine blk_drew ?_ | refine blk_alloc ?_ _)); exact BK238.out⟩, ⟨by repeat (first | (with_reducible first | exact HB.out | apply below_alloc | apply pw_below_drewN | apply below_drew1 | refine below_set ?_ GE236.out | refine below_set ?_ GE237.out | refine below_set ?_ GE238.out) | exact HB.out)⟩⟩
  case round =>
    clear H'
    try clear p2
    try clear c3
    try clear c6
    try clear c7
    try clear hcz8_0
    try clear hcz8_1
    try clear hfz8_0
    try clear hfz8_1
    obtain ⟨x7_1, x8_1, x239000_1, x239001_1, rfl, rfl, HA, HK1, BK236, BK237, BK238, HB⟩ := hrel
    cases gk with
    | zero => exact absurd HA.out (by simp [customsref01_DivMod.l0])
    | succ k1 =>
      have H := HA.out
      clear HA
      simp only [customsref01_DivMod.l0] at H
      by_cases c9 : x8_1 ≥ 0
      · rw [if_pos c9] at H
        have c9b0 : decide (0 ≤ x8_1) = true := decide_eq_true c9
        clear c9
        by_cases c10 : 0 ≤ (Go.bits .and .i64 x8_1 63)
        · rw [if_pos c10] at H
          have c10b0 := eq_true c10
          have c10b1 : decide (0 ≤ (Go.bits .and .i64 x8_1 63)) = true := decide_eq_true c10
          clear c10
          obtain ⟨ji11, hji11⟩ : ∃ j_ : Int, (shr .u64 a0_1 (Go.bits .and .i64 x8_1 63)) = j_ := ⟨_, rfl⟩
          replace H : (if x8_1 > 63 then (if 0 ≤ (wrap64 (x8_1 - 64)) then ((customsref01_Add.f x239000_1 x239001_1 x239000_1 x239001_1).bind fun bt239 => (if (x7_1 / 9223372036854775808) = 1 then (customsref01_DivMod.l0 k1 a1 (IntKind.u64.wrap ((Go.bits .or .u64 (IntKind.u64.wrap (x7_1 * 2)) (Go.bits .and .u64 (shr .u64 a0_0 (wrap64 (x8_1 - 64))) 1)) - a1)) (wrap64 (x8_1 - 1)) a0_0 a0_1 bt239.1 (Go.bits .or .u64 bt239.2.1 1)) else (if (Go.bits .or .u64 (IntKind.u64.wrap (x7_1 * 2)) (Go.bits .and .u64 (shr .u64 a0_0 (wrap64 (x8_1 - 64))) 1)) ≥ a1 then (customsref01_DivMod.l0 k1 a1 (IntKind.u64.wrap ((Go.bits .or .u64 (IntKind.u64.wrap (x7_1 * 2)) (Go.bits .and .u64 (shr .u64 a0_0 (wrap64 (x8_1 - 64))) 1)) - a1)) (wrap64 (x8_1 - 1)) a0_0 a0_1 bt239.1 (Go.bits .or .u64 bt239.2.1 1)) else (customsref01_DivMod.l0 k1 a1 (Go.bits .or .u64 (IntKind.u64.wrap (x7_1 * 2)) (Go.bits .and .u64 (shr .u64 a0_0 (wrap64 (x8_1 - 64))) 1)) (wrap64 (x8_1 - 1)) a0_0 a0_1 bt239.1 bt239.2.1)))) else (none)) else ((customsref01_Add.f x239000_1 x239001_1 x239000_1 x239001_1).bind fun bt242 => (if (x7_1 / 9223372036854775808) = 1 then (customsref01_DivMod.l0 k1 a1 (IntKind.u64.wrap ((Go.bits .or .u64 (IntKind.u64.wrap (x7_1 * 2)) (Go.bits .and .u64 (ji11) 1)) - a1)) (wrap64 (x8_1 - 1)) a0_0 a0_1 bt242.1 (Go.bits .or .u64 bt242.2.1 1)) else (if (Go.bits .or .u64 (IntKind.u64.wrap (x7_1 * 2)) (Go.bits .and .u64 (ji11) 1)) ≥ a1 then (customsref01_DivMod.l0 k1 a1 (IntKind.u64.wrap ((Go.bits .or .u64 (IntKind.u64.wrap (x7_1 * 2)) (Go.bits .and .u64 (ji11) 1)) - a1)) (wrap64 (x8_1 - 1)) a0_0 a0_1 bt242.1 (Go.bits .or .u64 bt242.2.1 1)) else (customsref01_DivMod.l0 k1 a1 (Go.bits .or .u64 (IntKind.u64.wrap (x7_1 * 2)) (Go.bits .and .u64 (ji11) 1)) (wrap64 (x8_1 - 1)) a0_0 a0_1 bt242.1 bt242.2.1))))) = some (r1, r2, r3) := by first | (rw [hji11] at H; exact H) | (simp only [hji11] at H ⊢; exact H)
          have hji11_ : (a0_1 / 2 ^ min (Go.bits .and .i64 x8_1 63).toNat 64) = ji11 := hji11
          have hji11z : (Go.bits .and .i64 x8_1 63) ≤ 64 → (a0_1 / 2 ^ (Go.bits .and .i64 x8_1 63).toNat) = ji11 := shr_small hji11
          by_cases c12 : x8_1 > 63
          · rw [if_pos c12] at H
            have c12b0 : decide (63 < x8_1) = true := decide_eq_true c12
            clear c12
            obtain ⟨ji13, hji13⟩ : ∃ j_ : Int, (wrap64 (x8_1 - 64)) = j_ := ⟨_, rfl⟩
            replace H : (if 0 ≤ (ji13) then ((customsref01_Add.f x239000_1 x239001_1 x239000_1 x239001_1).bind fun bt239 => (if (x7_1 / 9223372036854775808) = 1 then (customsref01_DivMod.l0 k1 a1 (IntKind.u64.wrap ((Go.bits .or .u64 (IntKind.u64.wrap (x7_1 * 2)) (Go.bits .and .u64 (shr .u64 a0_0 (ji13)) 1)) - a1)) (wrap64 (x8_1 - 1)) a0_0 a0_1 bt239.1 (Go.bits .or .u64 bt239.2.1 1)) else (if (Go.bits .or .u64 (IntKind.u64.wrap (x7_1 * 2)) (Go.bits .and .u64 (shr .u64 a0_0 (ji13)) 1)) ≥ a1 then (customsref01_DivMod.l0 k1 a1 (IntKind.u64.wrap ((Go.bits .or .u64 (IntKind.u64.wrap (x7_1 * 2)) (Go.bits .and .u64 (shr .u64 a0_0 (ji13)) 1)) - a1)) (wrap64 (x8_1 - 1)) a0_0 a0_1 bt239.1 (Go.bits .or .u64 bt239.2.1 1)) else (customsref01_DivMod.l0 k1 a1 (Go.bits .or .u64 (IntKind.u64.wrap (x7_1 * 2)) (Go.bits .and .u64 (shr .u64 a0_0 (ji13)) 1)) (wrap64 (x8_1 - 1)) a0_0 a0_1 bt239.1 bt239.2.1)))) else (none)) = some (r1, r2, r3) := by first | (rw [hji13] at H; exact H) | (simp only [hji13] at H ⊢; exact H)
            have hji13w : (IntKind.i64.wrap (x8_1 - 64)) = ji13 := (i64_w _).trans hji13
            by_cases c14 : 0 ≤ (ji13)
            · rw [if_pos c14] at H
              have c14b0 := eq_true c14
              have c14b1 : decide (0 ≤ (ji13)) = true := decide_eq_true c14
              clear c14
              obtain ⟨ji15, hji15⟩ : ∃ j_ : Int, (shr .u64 a0_0 (ji13)) = j_ := ⟨_, rfl⟩
              replace H : ((customsref01_Add.f x239000_1 x239001_1 x239000_1 x239001_1).bind fun bt239 => (if (x7_1 / 9223372036854775808) = 1 then (customsref01_DivMod.l0 k1 a1 (IntKind.u64.wrap ((Go.bits .or .u64 (IntKind.u64.wrap (x7_1 * 2)) (Go.bits .and .u64 (ji15) 1)) - a1)) (wrap64 (x8_1 - 1)) a0_0 a0_1 bt239.1 (Go.bits .or .u64 bt239.2.1 1)) else (if (Go.bits .or .u64 (IntKind.u64.wrap (x7_1 * 2)) (Go.bits .and .u64 (ji15) 1)) ≥ a1 then (customsref01_DivMod.l0 k1 a1 (IntKind.u64.wrap ((Go.bits .or .u64 (IntKind.u64.wrap (x7_1 * 2)) (Go.bits .and .u64 (ji15) 1)) - a1)) (wrap64 (x8_1 - 1)) a0_0 a0_1 bt239.1 (Go.bits .or .u64 bt239.2.1 1)) else (customsref01_DivMod.l0 k1 a1 (Go.bits .or .u64 (IntKind.u64.wrap (x7_1 * 2)) (Go.bits .and .u64 (ji15) 1)) (wrap64 (x8_1 - 1)) a0_0 a0_1 bt239.1 bt239.2.1)))) = some (r1, r2, r3) := by first | (rw [hji15] at H; exact H) | (simp only [hji15] at H ⊢; exact H)
              have hji15_ : (a0_0 / 2 ^ min (ji13).toNat 64) = ji15 := hji15
              have hji15z : (ji13) ≤ 64 → (a0_0 / 2 ^ (ji13).toNat) = ji15 := shr_small hji15
              replace H := Option.bind_eq_some_iff.mp H
              obtain ⟨⟨t239, t240, t241⟩, A160, H⟩ := H
              replace H : (if (x7_1 / 9223372036854775808) = 1 then (customsref01_DivMod.l0 k1 a1 (IntKind.u64.wrap ((Go.bits .or .u64 (IntKind.u64.wrap (x7_1 * 2)) (Go.bits .and .u64 (ji15) 1)) - a1)) (wrap64 (x8_1 - 1)) a0_0 a0_1 t239 (Go.bits .or .u64 t240 1)) else (if (Go.bits .or .u64 (IntKind.u64.wrap (x7_1 * 2)) (Go.bits .and .u64 (ji15) 1)) ≥ a1 then (customsref01_DivMod.l0 k1 a1 (IntKind.u64.wrap ((Go.bits .or .u64 (IntKind.u64.wrap (x7_1 * 2)) (Go.bits .and .u64 (ji15) 1)) - a1)) (wrap64 (x8_1 - 1)) a0_0 a0_1 t239 (Go.bits .or .u64 t240 1)) else (customsref01_DivMod.l0 k1 a1 (Go.bits .or .u64 (IntKind.u64.wrap (x7_1 * 2)) (Go.bits .and .u64 (ji15) 1)) (wrap64 (x8_1 - 1)) a0_0 a0_1 t239 t240))) = some (r1, r2, r3) := H
              have A16 := Aside0.mk A160
              clear A160
              by_cases c17 : (x7_1 / 9223372036854775808) = 1
              · rw [if_pos c17] at H
                have c17b0 : ((x7_1 / 9223372036854775808) == 1) = true := beq_iff_eq.mpr c17
                have c17b1 : ((x7_1 / 9223372036854775808) != 1) = false := bne_eq_false_iff_eq.mpr c17
                clear c17
                have H' := Aside0.mk H
                clear H
                have hnb18 := NB236_237.out
                have hnc18 := NB237_236.out
                have hnb19 := NB236_238.out
                have hnc19 := NB238_236.out
                have hcz20_0 : wr.cell? ⟨gb236, 0, none⟩ = some (.int .u64 a0_0) := (blk_cell BK236.out 0).trans rfl
                have hcz20_1 : wr.cell? ⟨gb236, 1, none⟩ = some (.int .u64 a0_1) := (blk_cell BK236.out 1).trans rfl
                have hfz20_0 := blk_frozen BK236.out 0
                have hfz20_1 := blk_frozen BK236.out 1
                have hnb21 := NB238_237.out
                have hnc21 := NB237_238.out
                have hcz22_0 : wr.cell? ⟨gb238, 0, none⟩ = some (.int .u64 x239000_1) := (blk_cell BK238.out 0).trans rfl
                have hcz22_1 : wr.cell? ⟨gb238, 1, none⟩ = some (.int .u64 x239001_1) := (blk_cell BK238.out 1).trans rfl
                have hfz22_0 := blk_frozen BK238.out 0
                have hfz22_1 := blk_frozen BK238.out 1
                go_wp2_with (first | ((with_reducible refine gate_callee (f := 39) rfl ?_); refine goesL_ (some 39) rfl rfl Try.func39 (by kernel_rfl) rfl #[.agg #[.int .u64 x239000_1, .int .u64 x239001_1], .agg #[.int .u64 x239000_1, .int .u64 x239001_1]] rfl (by (try simp only [List.map_toArray, List.map_cons, List.map_nil]); first | done | rfl | (simp only [List.length_drop, List.length_take]; rfl)) ?_; (with_reducible refine (customsref01_Add.calls x239000_1 x239001_1 x239000_1 x239001_1 t239 t240 t241 _ A16.out).mono ?_); rintro e w23 ⟨rfl, hb⟩; refine ⟨_, rfl, ?_⟩; have n0_ := Aside0.mk (blk_below (g := gb236) (o := .cells #[.int .u64 a0_0, .int .u64 a0_1] 66 (0, 0)) (by (with_reducible repeat (first | refine blk_drewN ?_ _ | refine blk_drew ?_ | refine blk_alloc ?_ _)); exact BK236.out) hb); have n1_ := Aside0.mk (blk_below (g := gb237) (o := .cells #[.int .u64 0, .int .u64 0] 66 (0, 0)) (by (with_reducible repeat (first | refine blk_drewN ?_ _ | refine blk_drew ?_ | refine blk_alloc ?_ _)); exact BK237.out) hb); have n2_ := Aside0.mk (blk_below (g := gb238) (o := .cells #[.int .u64 x239000_1, .int .u64 x239001_1] 66 (0, 0)) (by (with_reducible repeat (first | refine blk_drewN ?_ _ | refine blk_drew ?_ | refine blk_alloc ?_ _)); exact BK238.out) hb); have n3_ := Aside0.mk (below_step (by repeat (first | (with_reducible first | exact HB.out | apply below_alloc | apply pw_below_drewN | apply below_drew1 | refine below_set ?_ GE236.out | refine below_set ?_ GE237.out | refine below_set ?_ GE238.out) | exact HB.out)) hb); clear BK236; clear BK237; clear BK238; clear HB; have BK236 := n0_; have BK237 := n1_; have BK238 := n2_; have HB := n3_; clear n0_ n1_ n2_ n3_; (try clear hb); (try clear hb2); (try clear hk); (try clear hi); have hcz24_0 : w23.cell? ⟨gb238, 0, none⟩ = some (.int .u64 x239000_1) := (blk_cell BK238.out 0).trans rfl; have hcz24_1 : w23.cell? ⟨gb238, 1, none⟩ = some (.int .u64 x239001_1) := (blk_cell BK238.out 1).trans rfl; have hfz24_0 := blk_frozen BK238.out 0; have hfz24_1 := blk_frozen BK238.out 1))
                go_roundg k1
                case measure => have := HK1.out; omega
                case rel => exact ⟨(IntKind.u64.wrap ((Go.bits .or .u64 (IntKind.u64.wrap (x7_1 * 2)) (Go.bits .and .u64 (ji15) 1)) - a1)), (wrap64 (x8_1 - 1)), (t239), (Go.bits .or .u64 t240 1), (by first | rfl | (simp; done) | (simp only [← hji15] <;> (first | rfl | simp)) | (simp [*]; done)), (by first | rfl | (simp; done) | (simp [*]; done)), H', ⟨by have := HK1.out; omega⟩, ⟨by (with_reducible repeat (first | refine blk_drewN ?_ _ | refine blk_drew ?_ | refine blk_alloc ?_ _)); refine blk_far ?_ NB236_238.out _; (with_reducible repeat (first | refine blk_drewN ?_ _ | refine blk_drew ?_ | refine blk_alloc ?_ _)); refine blk_far ?_ NB236_238.out _; (with_reducible repeat (first | refine blk_drewN ?_ _ | refine blk_drew ?_ | refine blk_alloc ?_ _)); refine blk_far ?_ NB236_238.out _; (with_reducible repeat (first | refine blk_drewN ?_ _ | refine blk_drew ?_ | refine blk_alloc ?_ _)); exact BK236.out⟩, ⟨by (with_reducible repeat (first | refine blk_drewN ?_ _ | refine blk_drew ?_ | refine blk_alloc ?_ _)); refine blk_far ?_ NB237_238.out _; (with_reducible repeat (first | refine blk_drewN ?_ _ | refine blk_drew ?_ | refine blk_alloc ?_ _)); refine blk_far ?_ NB237_238.out _; (with_reducible repeat (first | refine blk_drewN ?_ _ | refine blk_drew ?_ | refine blk_alloc ?_ _)); refine blk_far ?_ NB237_238.out _; (with_reducible repeat (first | refine blk_drewN ?_ _ | refine blk_drew ?_ | refine blk_alloc ?_ _)); exact BK237.out⟩, ⟨by (with_reducible repeat (first | refine blk_drewN ?_ _ | refine blk_drew ?_ | refine blk_alloc ?_ _)); refine blk_put (cs := #[.int .u64 t239, .int .u64 t240]) ?_ 1 _ rfl; (with_reducible repeat (first | refine blk_drewN ?_ _ | refine blk_drew ?_ | refine blk_alloc ?_ _)); refine blk_put (cs := #[.int .u64 t239, .int .u64 x239001_1]) ?_ 1 _ rfl; (with_reducible repeat (first | refine blk_drewN ?_ _ | refine blk_drew ?_ | refine blk_alloc ?_ _)); refine blk_put (cs := #[.int .u64 x239000_1, .int .u64 x239001_1]) ?_ 0 _ rfl; (with_reducible repeat (first | refine blk_drewN ?_ _ | refine blk_drew ?_ | refine blk_alloc ?_ _)); exact BK238.out⟩, ⟨by repeat (first | (with_reducible first | exact HB.out | apply below_alloc | apply pw_below_drewN | apply below_drew1 | refine below_set ?_ GE236.out | refine below_set ?_ GE237.out | refine below_set ?_ GE238.out) | exact HB.out)⟩⟩
              · rw [if_neg c17] at H
                have c17b0 : ((x7_1 / 9223372036854775808) == 1) = false := beq_eq_false_iff_ne.mpr c17
                have c17b1 : ((x7_1 / 9223372036854775808) != 1) = true := bne_iff_ne.mpr c17
                by_cases c25 : (Go.bits .or .u64 (IntKind.u64.wrap (x7_1 * 2)) (Go.bits .and .u64 (ji15) 1)) ≥ a1
                · rw [if_pos c25] at H
                  have c25b0 : decide (a1 ≤ (Go.bits .or .u64 (IntKind.u64.wrap (x7_1 * 2)) (Go.bits .and .u64 (ji15) 1))) = true := decide_eq_true c25
                  clear c25
                  have H' := Aside0.mk H
                  clear H
                  have hnb26 := NB236_237.out
                  have hnc26 := NB237_236.out
                  have hnb27 := NB236_238.out
                  have hnc27 := NB238_236.out
                  have hcz28_0 : wr.cell? ⟨gb236, 0, none⟩ = some (.int .u64 a0_0) := (blk_cell BK236.out 0).trans rfl
                  have hcz28_1 : wr.cell? ⟨gb236, 1, none⟩ = some (.int .u64 a0_1) := (blk_cell BK236.out 1).trans rfl
                  have hfz28_0 := blk_frozen BK236.out 0
                  have hfz28_1 := blk_frozen BK236.out 1
                  have hnb29 := NB238_237.out
                  have hnc29 := NB237_238.out
                  have hcz30_0 : wr.cell? ⟨gb238, 0, none⟩ = some (.int .u64 x239000_1) := (blk_cell BK238.out 0).trans rfl
                  have hcz30_1 : wr.cell? ⟨gb238, 1, none⟩ = some (.int .u64 x239001_1) := (blk_cell BK238.out 1).trans rfl
                  have hfz30_0 := blk_frozen BK238.out 0
                  have hfz30_1 := blk_frozen BK238.out 1
                  go_wp2_with (first | ((with_reducible refine gate_callee (f := 39) rfl ?_); refine goesL_ (some 39) rfl rfl Try.func39 (by kernel_rfl) rfl #[.agg #[.int .u64 x239000_1, .int .u64 x239001_1], .agg #[.int .u64 x239000_1, .int .u64 x239001_1]] rfl (by (try simp only [List.map_toArray, List.map_cons, List.map_nil]); first | done | rfl | (simp only [List.length_drop, List.length_take]; rfl)) ?_; (with_reducible refine (customsref01_Add.calls x239000_1 x239001_1 x239000_1 x239001_1 t239 t240 t241 _ A16.out).mono ?_); rintro e w31 ⟨rfl, hb⟩; refine ⟨_, rfl, ?_⟩; have n0_ := Aside0.mk (blk_below (g := gb236) (o := .cells #[.int .u64 a0_0, .int .u64 a0_1] 66 (0, 0)) (by (with_reducible repeat (first | refine blk_drewN ?_ _ | refine blk_drew ?_ | refine blk_alloc ?_ _)); exact BK236.out) hb); have n1_ := Aside0.mk (blk_below (g := gb237) (o := .cells #[.int .u64 0, .int .u64 0] 66 (0, 0)) (by (with_reducible repeat (first | refine blk_drewN ?_ _ | refine blk_drew ?_ | refine blk_alloc ?_ _)); exact BK237.out) hb); have n2_ := Aside0.mk (blk_below (g := gb238) (o := .cells #[.int .u64 x239000_1, .int .u64 x239001_1] 66 (0, 0)) (by (with_reducible repeat (first | refine blk_drewN ?_ _ | refine blk_drew ?_ | refine blk_alloc ?_ _)); exact BK238.out) hb); have n3_ := Aside0.mk (below_step (by repeat (first | (with_reducible first | exact HB.out | apply below_alloc | apply pw_below_drewN | apply below_drew1 | refine below_set ?_ GE236.out | refine below_set ?_ GE237.out | refine below_set ?_ GE238.out) | exact HB.out)) hb); clear BK236; clear BK237; clear BK238; clear HB; have BK236 := n0_; have BK237 := n1_; have BK238 := n2_; have HB := n3_; clear n0_ n1_ n2_ n3_; (try clear hb); (try clear hb2); (try clear hk); (try clear hi); have hcz32_0 : w31.cell? ⟨gb238, 0, none⟩ = some (.int .u64 x239000_1) := (blk_cell BK238.out 0).trans rfl; have hcz32_1 : w31.cell? ⟨gb238, 1, none⟩ = some (.int .u64 x239001_1) := (blk_cell BK238.out 1).trans rfl; have hfz32_0 := blk_frozen BK238.out 0; have hfz32_1 := blk_frozen BK238.out 1))
                  go_roundg k1
                  case measure => have := HK1.out; omega
                  case rel => exact ⟨(IntKind.u64.wrap ((Go.bits .or .u64 (IntKind.u64.wrap (x7_1 * 2)) (Go.bits .and .u64 (ji15) 1)) - a1)), (wrap64 (x8_1 - 1)), (t239), (Go.bits .or .u64 t240 1), (by first | rfl | (simp; done) | (simp only [← hji15] <;> (first | rfl | simp)) | (simp [*]; done)), (by first | rfl | (simp; done) | (simp [*]; done)), H', ⟨by have := HK1.out; omega⟩, ⟨by (with_reducible repeat (first | refine blk_drewN ?_ _ | refine blk_drew ?_ | refine blk_alloc ?_ _)); refine blk_far ?_ NB236_238.out _; (with_reducible repeat (first | refine blk_drewN ?_ _ | refine blk_drew ?_ | refine blk_alloc ?_ _)); refine blk_far ?_ NB236_238.out _; (with_reducible repeat (first | refine blk_drewN ?_ _ | refine blk_drew ?_ | refine blk_alloc ?_ _)); refine blk_far ?_ NB236_238.out _; (with_reducible repeat (first | refine blk_drewN ?_ _ | refine blk_drew ?_ | refine blk_alloc ?_ _)); exact BK236.out⟩, ⟨by (with_reducible repeat (first | refine blk_drewN ?_ _ | refine blk_drew ?_ | refine blk_alloc ?_ _)); refine blk_far ?_ NB237_238.out _; (with_reducible repeat (first | refine blk_drewN ?_ _ | refine blk_drew ?_ | refine blk_alloc ?_ _)); refine blk_far ?_ NB237_238.out _; (with_reducible repeat (first | refine blk_drewN ?_ _ | refine blk_drew ?_ | refine blk_alloc ?_ _)); refine blk_far ?_ NB237_238.out _; (with_reducible repeat (first | refine blk_drewN ?_ _ | refine blk_drew ?_ | refine blk_alloc ?_ _)); exact BK237.out⟩, ⟨by (with_reducible repeat (first | refine blk_drewN ?_ _ | refine blk_drew ?_ | refine blk_alloc ?_ _)); refine blk_put (cs := #[.int .u64 t239, .int .u64 t240]) ?_ 1 _ rfl; (with_reducible repeat (first | refine blk_drewN ?_ _ | refine blk_drew ?_ | refine blk_alloc ?_ _)); refine blk_put (cs := #[.int .u64 t239, .int .u64 x239001_1]) ?_ 1 _ rfl; (with_reducible repeat (first | refine blk_drewN ?_ _ | refine blk_drew ?_ | refine blk_alloc ?_ _)); refine blk_put (cs := #[.int .u64 x239000_1, .int .u64 x239001_1]) ?_ 0 _ rfl; (with_reducible repeat (first | refine blk_drewN ?_ _ | refine blk_drew ?_ | refine blk_alloc ?_ _)); exact BK238.out⟩, ⟨by repeat (first | (with_reducible first | exact HB.out | apply below_alloc | apply pw_below_drewN | apply below_drew1 | refine below_set ?_ GE236.out | refine below_set ?_ GE237.out | refine below_set ?_ GE238.out) | exact HB.out)⟩⟩
                · rw [if_neg c25] at H
                  have c25b0 : decide (a1 ≤ (Go.bits .or .u64 (IntKind.u64.wrap (x7_1 * 2)) (Go.bits .and .u64 (ji15) 1))) = false := decide_eq_false c25
                  clear c25
                  have H' := Aside0.mk H
                  clear H
                  have hnb33 := NB236_237.out
                  have hnc33 := NB237_236.out
                  have hnb34 := NB236_238.out
                  have hnc34 := NB238_236.out
                  have hcz35_0 : wr.cell? ⟨gb236, 0, none⟩ = some (.int .u64 a0_0) := (blk_cell BK236.out 0).trans rfl
                  have hcz35_1 : wr.cell? ⟨gb236, 1, none⟩ = some (.int .u64 a0_1) := (blk_cell BK236.out 1).trans rfl
                  have hfz35_0 := blk_frozen BK236.out 0
                  have hfz35_1 := blk_frozen BK236.out 1
                  have hnb36 := NB238_237.out
                  have hnc36 := NB237_238.out
                  have hcz37_0 : wr.cell? ⟨gb238, 0, none⟩ = some (.int .u64 x239000_1) := (blk_cell BK238.out 0).trans rfl
                  have hcz37_1 : wr.cell? ⟨gb238, 1, none⟩ = some (.int .u64 x239001_1) := (blk_cell BK238.out 1).trans rfl
                  have hfz37_0 := blk_frozen BK238.out 0
                  have hfz37_1 := blk_frozen BK238.out 1
                  go_wp2_with (first | ((with_reducible refine gate_callee (f := 39) rfl ?_); refine goesL_ (some 39) rfl rfl Try.func39 (by kernel_rfl) rfl #[.agg #[.int .u64 x239000_1, .int .u64 x239001_1], .agg #[.int .u64 x239000_1, .int .u64 x239001_1]] rfl (by (try simp only [List.map_toArray, List.map_cons, List.map_nil]); first | done | rfl | (simp only [List.length_drop, List.length_take]; rfl)) ?_; (with_reducible refine (customsref01_Add.calls x239000_1 x239001_1 x239000_1 x239001_1 t239 t240 t241 _ A16.out).mono ?_); rintro e w38 ⟨rfl, hb⟩; refine ⟨_, rfl, ?_⟩; have n0_ := Aside0.mk (blk_below (g := gb236) (o := .cells #[.int .u64 a0_0, .int .u64 a0_1] 66 (0, 0)) (by (with_reducible repeat (first | refine blk_drewN ?_ _ | refine blk_drew ?_ | refine blk_alloc ?_ _)); exact BK236.out) hb); have n1_ := Aside0.mk (blk_below (g := gb237) (o := .cells #[.int .u64 0, .int .u64 0] 66 (0, 0)) (by (with_reducible repeat (first | refine blk_drewN ?_ _ | refine blk_drew ?_ | refine blk_alloc ?_ _)); exact BK237.out) hb); have n2_ := Aside0.mk (blk_below (g := gb238) (o := .cells #[.int .u64 x239000_1, .int .u64 x239001_1] 66 (0, 0)) (by (with_reducible repeat (first | refine blk_drewN ?_ _ | refine blk_drew ?_ | refine blk_alloc ?_ _)); exact BK238.out) hb); have n3_ := Aside0.mk (below_step (by repeat (first | (with_reducible first | exact HB.out | apply below_alloc | apply pw_below_drewN | apply below_drew1 | refine below_set ?_ GE236.out | refine below_set ?_ GE237.out | refine below_set ?_ GE238.out) | exact HB.out)) hb); clear BK236; clear BK237; clear BK238; clear HB; have BK236 := n0_; have BK237 := n1_; have BK238 := n2_; have HB := n3_; clear n0_ n1_ n2_ n3_; (try clear hb); (try clear hb2); (try clear hk); (try clear hi); have hcz39_0 : w38.cell? ⟨gb238, 0, none⟩ = some (.int .u64 x239000_1) := (blk_cell BK238.out 0).trans rfl; have hcz39_1 : w38.cell? ⟨gb238, 1, none⟩ = some (.int .u64 x239001_1) := (blk_cell BK238.out 1).trans rfl; have hfz39_0 := blk_frozen BK238.out 0; have hfz39_1 := blk_frozen BK238.out 1))
                  go_roundg k1
                  case measure => have := HK1.out; omega
                  case rel => exact ⟨(Go.bits .or .u64 (IntKind.u64.wrap (x7_1 * 2)) (Go.bits .and .u64 (ji15) 1)), (wrap64 (x8_1 - 1)), (t239), (t240), (by first | rfl | (simp; done) | (simp only [← hji15] <;> (first | rfl | simp)) | (simp [*]; done)), (by first | rfl | (simp; done) | (simp [*]; done)), H', ⟨by have := HK1.out; omega⟩, ⟨by (with_reducible repeat (first | refine blk_drewN ?_ _ | refine blk_drew ?_ | refine blk_alloc ?_ _)); refine blk_far ?_ NB236_238.out _; (with_reducible repeat (first | refine blk_drewN ?_ _ | refine blk_drew ?_ | refine blk_alloc ?_ _)); refine blk_far ?_ NB236_238.out _; (with_reducible repeat (first | refine blk_drewN ?_ _ | refine blk_drew ?_ | refine blk_alloc ?_ _)); exact BK236.out⟩, ⟨by (with_reducible repeat (first | refine blk_drewN ?_ _ | refine blk_drew ?_ | refine blk_alloc ?_ _)); refine blk_far ?_ NB237_238.out _; (with_reducible repeat (first | refine blk_drewN ?_ _ | refine blk_drew ?_ | refine blk_alloc ?_ _)); refine blk_far ?_ NB237_238.out _; (with_reducible repeat (first | refine blk_drewN ?_ _ | refine blk_drew ?_ | refine blk_alloc ?_ _)); exact BK237.out⟩, ⟨by (with_reducible repeat (first | refine blk_drewN ?_ _ | refine blk_drew ?_ | refine blk_alloc ?_ _)); refine blk_put (cs := #[.int .u64 t239, .int .u64 x239001_1]) ?_ 1 _ rfl; (with_reducible repeat (first | refine blk_drewN ?_ _ | refine blk_drew ?_ | refine blk_alloc ?_ _)); refine blk_put (cs := #[.int .u64 x239000_1, .int .u64 x239001_1]) ?_ 0 _ rfl; (with_reducible repeat (first | refine blk_drewN ?_ _ | refine blk_drew ?_ | refine blk_alloc ?_ _)); exact BK238.out⟩, ⟨by repeat (first | (with_reducible first | exact HB.out | apply below_alloc | apply pw_below_drewN | apply below_drew1 | refine below_set ?_ GE236.out | refine below_set ?_ GE237.out | refine below_set ?_ GE238.out) | exact HB.out)⟩⟩
            · rw [if_neg c14] at H
              exact absurd H (by simp)
          · rw [if_neg c12] at H
            have c12b0 : decide (63 < x8_1) = false := decide_eq_false c12
            clear c12
            replace H := Option.bind_eq_some_iff.mp H
            obtain ⟨⟨t242, t243, t244⟩, A400, H⟩ := H
            replace H : (if (x7_1 / 9223372036854775808) = 1 then (customsref01_DivMod.l0 k1 a1 (IntKind.u64.wrap ((Go.bits .or .u64 (IntKind.u64.wrap (x7_1 * 2)) (Go.bits .and .u64 (ji11) 1)) - a1)) (wrap64 (x8_1 - 1)) a0_0 a0_1 t242 (Go.bits .or .u64 t243 1)) else (if (Go.bits .or .u64 (IntKind.u64.wrap (x7_1 * 2)) (Go.bits .and .u64 (ji11) 1)) ≥ a1 then (customsref01_DivMod.l0 k1 a1 (IntKind.u64.wrap ((Go.bits .or .u64 (IntKind.u64.wrap (x7_1 * 2)) (Go.bits .and .u64 (ji11) 1)) - a1)) (wrap64 (x8_1 - 1)) a0_0 a0_1 t242 (Go.bits .or .u64 t243 1)) else (customsref01_DivMod.l0 k1 a1 (Go.bits .or .u64 (IntKind.u64.wrap (x7_1 * 2)) (Go.bits .and .u64 (ji11) 1)) (wrap64 (x8_1 - 1)) a0_0 a0_1 t242 t243))) = some (r1, r2, r3) := H
            have A40 := Aside0.mk A400
            clear A400
            by_cases c41 : (x7_1 / 9223372036854775808) = 1
            · rw [if_pos c41] at H
              have c41b0 : ((x7_1 / 9223372036854775808) == 1) = true := beq_iff_eq.mpr c41
              have c41b1 : ((x7_1 / 9223372036854775808) != 1) = false := bne_eq_false_iff_eq.mpr c41
              clear c41
              have H' := Aside0.mk H
              clear H
              have hnb42 := NB236_237.out
              have hnc42 := NB237_236.out
              have hnb43 := NB236_238.out
              have hnc43 := NB238_236.out
              have hcz44_0 : wr.cell? ⟨gb236, 0, none⟩ = some (.int .u64 a0_0) := (blk_cell BK236.out 0).trans rfl
              have hcz44_1 : wr.cell? ⟨gb236, 1, none⟩ = some (.int .u64 a0_1) := (blk_cell BK236.out 1).trans rfl
              have hfz44_0 := blk_frozen BK236.out 0
              have hfz44_1 := blk_frozen BK236.out 1
              have hnb45 := NB238_237.out
              have hnc45 := NB237_238.out
              have hcz46_0 : wr.cell? ⟨gb238, 0, none⟩ = some (.int .u64 x239000_1) := (blk_cell BK238.out 0).trans rfl
              have hcz46_1 : wr.cell? ⟨gb238, 1, none⟩ = some (.int .u64 x239001_1) := (blk_cell BK238.out 1).trans rfl
              have hfz46_0 := blk_frozen BK238.out 0
              have hfz46_1 := blk_frozen BK238.out 1
              go_wp2_with (first | ((with_reducible refine gate_callee (f := 39) rfl ?_); refine goesL_ (some 39) rfl rfl Try.func39 (by kernel_rfl) rfl #[.agg #[.int .u64 x239000_1, .int .u64 x239001_1], .agg #[.int .u64 x239000_1, .int .u64 x239001_1]] rfl (by (try simp only [List.map_toArray, List.map_cons, List.map_nil]); first | done | rfl | (simp only [List.length_drop, List.length_take]; rfl)) ?_; (with_reducible refine (customsref01_Add.calls x239000_1 x239001_1 x239000_1 x239001_1 t242 t243 t244 _ A40.out).mono ?_); rintro e w47 ⟨rfl, hb⟩; refine ⟨_, rfl, ?_⟩; have n0_ := Aside0.mk (blk_below (g := gb236) (o := .cells #[.int .u64 a0_0, .int .u64 a0_1] 66 (0, 0)) (by (with_reducible repeat (first | refine blk_drewN ?_ _ | refine blk_drew ?_ | refine blk_alloc ?_ _)); exact BK236.out) hb); have n1_ := Aside0.mk (blk_below (g := gb237) (o := .cells #[.int .u64 0, .int .u64 0] 66 (0, 0)) (by (with_reducible repeat (first | refine blk_drewN ?_ _ | refine blk_drew ?_ | refine blk_alloc ?_ _)); exact BK237.out) hb); have n2_ := Aside0.mk (blk_below (g := gb238) (o := .cells #[.int .u64 x239000_1, .int .u64 x239001_1] 66 (0, 0)) (by (with_reducible repeat (first | refine blk_drewN ?_ _ | refine blk_drew ?_ | refine blk_alloc ?_ _)); exact BK238.out) hb); have n3_ := Aside0.mk (below_step (by repeat (first | (with_reducible first | exact HB.out | apply below_alloc | apply pw_below_drewN | apply below_drew1 | refine below_set ?_ GE236.out | refine below_set ?_ GE237.out | refine below_set ?_ GE238.out) | exact HB.out)) hb); clear BK236; clear BK237; clear BK238; clear HB; have BK236 := n0_; have BK237 := n1_; have BK238 := n2_; have HB := n3_; clear n0_ n1_ n2_ n3_; (try clear hb); (try clear hb2); (try clear hk); (try clear hi); have hcz48_0 : w47.cell? ⟨gb238, 0, none⟩ = some (.int .u64 x239000_1) := (blk_cell BK238.out 0).trans rfl; have hcz48_1 : w47.cell? ⟨gb238, 1, none⟩ = some (.int .u64 x239001_1) := (blk_cell BK238.out 1).trans rfl; have hfz48_0 := blk_frozen BK238.out 0; have hfz48_1 := blk_frozen BK238.out 1))
              go_roundg k1
              case measure => have := HK1.out; omega
              case rel => exact ⟨(IntKind.u64.wrap ((Go.bits .or .u64 (IntKind.u64.wrap (x7_1 * 2)) (Go.bits .and .u64 (ji11) 1)) - a1)), (wrap64 (x8_1 - 1)), (t242), (Go.bits .or .u64 t243 1), (by first | rfl | (simp; done) | (simp only [← hji11] <;> (first | rfl | simp)) | (simp [*]; done)), (by first | rfl | (simp; done) | (simp [*]; done)), H', ⟨by have := HK1.out; omega⟩, ⟨by (with_reducible repeat (first | refine blk_drewN ?_ _ | refine blk_drew ?_ | refine blk_alloc ?_ _)); refine blk_far ?_ NB236_238.out _; (with_reducible repeat (first | refine blk_drewN ?_ _ | refine blk_drew ?_ | refine blk_alloc ?_ _)); refine blk_far ?_ NB236_238.out _; (with_reducible repeat (first | refine blk_drewN ?_ _ | refine blk_drew ?_ | refine blk_alloc ?_ _)); refine blk_far ?_ NB236_238.out _; (with_reducible repeat (first | refine blk_drewN ?_ _ | refine blk_drew ?_ | refine blk_alloc ?_ _)); exact BK236.out⟩, ⟨by (with_reducible repeat (first | refine blk_drewN ?_ _ | refine blk_drew ?_ | refine blk_alloc ?_ _)); refine blk_far ?_ NB237_238.out _; (with_reducible repeat (first | refine blk_drewN ?_ _ | refine blk_drew ?_ | refine blk_alloc ?_ _)); refine blk_far ?_ NB237_238.out _; (with_reducible repeat (first | refine blk_drewN ?_ _ | refine blk_drew ?_ | refine blk_alloc ?_ _)); refine blk_far ?_ NB237_238.out _; (with_reducible repeat (first | refine blk_drewN ?_ _ | refine blk_drew ?_ | refine blk_alloc ?_ _)); exact BK237.out⟩, ⟨by (with_reducible repeat (first | refine blk_drewN ?_ _ | refine blk_drew ?_ | refine blk_alloc ?_ _)); refine blk_put (cs := #[.int .u64 t242, .int .u64 t243]) ?_ 1 _ rfl; (with_reducible repeat (first | refine blk_drewN ?_ _ | refine blk_drew ?_ | refine blk_alloc ?_ _)); refine blk_put (cs := #[.int .u64 t242, .int .u64 x239001_1]) ?_ 1 _ rfl; (with_reducible repeat (first | refine blk_drewN ?_ _ | refine blk_drew ?_ | refine blk_alloc ?_ _)); refine blk_put (cs := #[.int .u64 x239000_1, .int .u64 x239001_1]) ?_ 0 _ rfl; (with_reducible repeat (first | refine blk_drewN ?_ _ | refine blk_drew ?_ | refine blk_alloc ?_ _)); exact BK238.out⟩, ⟨by repeat (first | (with_reducible first | exact HB.out | apply below_alloc | apply pw_below_drewN | apply below_drew1 | refine below_set ?_ GE236.out | refine below_set ?_ GE237.out | refine below_set ?_ GE238.out) | exact HB.out)⟩⟩
            · rw [if_neg c41] at H
              have c41b0 : ((x7_1 / 9223372036854775808) == 1) = false := beq_eq_false_iff_ne.mpr c41
              have c41b1 : ((x7_1 / 9223372036854775808) != 1) = true := bne_iff_ne.mpr c41
              by_cases c49 : (Go.bits .or .u64 (IntKind.u64.wrap (x7_1 * 2)) (Go.bits .and .u64 (ji11) 1)) ≥ a1
              · rw [if_pos c49] at H
                have c49b0 : decide (a1 ≤ (Go.bits .or .u64 (IntKind.u64.wrap (x7_1 * 2)) (Go.bits .and .u64 (ji11) 1))) = true := decide_eq_true c49
                clear c49
                have H' := Aside0.mk H
                clear H
                have hnb50 := NB236_237.out
                have hnc50 := NB237_236.out
                have hnb51 := NB236_238.out
                have hnc51 := NB238_236.out
                have hcz52_0 : wr.cell? ⟨gb236, 0, none⟩ = some (.int .u64 a0_0) := (blk_cell BK236.out 0).trans rfl
                have hcz52_1 : wr.cell? ⟨gb236, 1, none⟩ = some (.int .u64 a0_1) := (blk_cell BK236.out 1).trans rfl
                have hfz52_0 := blk_frozen BK236.out 0
                have hfz52_1 := blk_frozen BK236.out 1
                have hnb53 := NB238_237.out
                have hnc53 := NB237_238.out
                have hcz54_0 : wr.cell? ⟨gb238, 0, none⟩ = some (.int .u64 x239000_1) := (blk_cell BK238.out 0).trans rfl
                have hcz54_1 : wr.cell? ⟨gb238, 1, none⟩ = some (.int .u64 x239001_1) := (blk_cell BK238.out 1).trans rfl
                have hfz54_0 := blk_frozen BK238.out 0
                have hfz54_1 := blk_frozen BK238.out 1
                go_wp2_with (first | ((with_reducible refine gate_callee (f := 39) rfl ?_); refine goesL_ (some 39) rfl rfl Try.func39 (by kernel_rfl) rfl #[.agg #[.int .u64 x239000_1, .int .u64 x239001_1], .agg #[.int .u64 x239000_1, .int .u64 x239001_1]] rfl (by (try simp only [List.map_toArray, List.map_cons, List.map_nil]); first | done | rfl | (simp only [List.length_drop, List.length_take]; rfl)) ?_; (with_reducible refine (customsref01_Add.calls x239000_1 x239001_1 x239000_1 x239001_1 t242 t243 t244 _ A40.out).mono ?_); rintro e w55 ⟨rfl, hb⟩; refine ⟨_, rfl, ?_⟩; have n0_ := Aside0.mk (blk_below (g := gb236) (o := .cells #[.int .u64 a0_0, .int .u64 a0_1] 66 (0, 0)) (by (with_reducible repeat (first | refine blk_drewN ?_ _ | refine blk_drew ?_ | refine blk_alloc ?_ _)); exact BK236.out) hb); have n1_ := Aside0.mk (blk_below (g := gb237) (o := .cells #[.int .u64 0, .int .u64 0] 66 (0, 0)) (by (with_reducible repeat (first | refine blk_drewN ?_ _ | refine blk_drew ?_ | refine blk_alloc ?_ _)); exact BK237.out) hb); have n2_ := Aside0.mk (blk_below (g := gb238) (o := .cells #[.int .u64 x239000_1, .int .u64 x239001_1] 66 (0, 0)) (by (with_reducible repeat (first | refine blk_drewN ?_ _ | refine blk_drew ?_ | refine blk_alloc ?_ _)); exact BK238.out) hb); have n3_ := Aside0.mk (below_step (by repeat (first | (with_reducible first | exact HB.out | apply below_alloc | apply pw_below_drewN | apply below_drew1 | refine below_set ?_ GE236.out | refine below_set ?_ GE237.out | refine below_set ?_ GE238.out) | exact HB.out)) hb); clear BK236; clear BK237; clear BK238; clear HB; have BK236 := n0_; have BK237 := n1_; have BK238 := n2_; have HB := n3_; clear n0_ n1_ n2_ n3_; (try clear hb); (try clear hb2); (try clear hk); (try clear hi); have hcz56_0 : w55.cell? ⟨gb238, 0, none⟩ = some (.int .u64 x239000_1) := (blk_cell BK238.out 0).trans rfl; have hcz56_1 : w55.cell? ⟨gb238, 1, none⟩ = some (.int .u64 x239001_1) := (blk_cell BK238.out 1).trans rfl; have hfz56_0 := blk_frozen BK238.out 0; have hfz56_1 := blk_frozen BK238.out 1))
                go_roundg k1
                case measure => have := HK1.out; omega
                case rel => exact ⟨(IntKind.u64.wrap ((Go.bits .or .u64 (IntKind.u64.wrap (x7_1 * 2)) (Go.bits .and .u64 (ji11) 1)) - a1)), (wrap64 (x8_1 - 1)), (t242), (Go.bits .or .u64 t243 1), (by first | rfl | (simp; done) | (simp only [← hji11] <;> (first | rfl | simp)) | (simp [*]; done)), (by first | rfl | (simp; done) | (simp [*]; done)), H', ⟨by have := HK1.out; omega⟩, ⟨by (with_reducible repeat (first | refine blk_drewN ?_ _ | refine blk_drew ?_ | refine blk_alloc ?_ _)); refine blk_far ?_ NB236_238.out _; (with_reducible repeat (first | refine blk_drewN ?_ _ | refine blk_drew ?_ | refine blk_alloc ?_ _)); refine blk_far ?_ NB236_238.out _; (with_reducible repeat (first | refine blk_drewN ?_ _ | refine blk_drew ?_ | refine blk_alloc ?_ _)); refine blk_far ?_ NB236_238.out _; (with_reducible repeat (first | refine blk_drewN ?_ _ | refine blk_drew ?_ | refine blk_alloc ?_ _)); exact BK236.out⟩, ⟨by (with_reducible repeat (first | refine blk_drewN ?_ _ | refine blk_drew ?_ | refine blk_alloc ?_ _)); refine blk_far ?_ NB237_238.out _; (with_reducible repeat (first | refine blk_drewN ?_ _ | refine blk_drew ?_ | refine blk_alloc ?_ _)); refine blk_far ?_ NB237_238.out _; (with_reducible repeat (first | refine blk_drewN ?_ _ | refine blk_drew ?_ | refine blk_alloc ?_ _)); refine blk_far ?_ NB237_238.out _; (with_reducible repeat (first | refine blk_drewN ?_ _ | refine blk_drew ?_ | refine blk_alloc ?_ _)); exact BK237.out⟩, ⟨by (with_reducible repeat (first | refine blk_drewN ?_ _ | refine blk_drew ?_ | refine blk_alloc ?_ _)); refine blk_put (cs := #[.int .u64 t242, .int .u64 t243]) ?_ 1 _ rfl; (with_reducible repeat (first | refine blk_drewN ?_ _ | refine blk_drew ?_ | refine blk_alloc ?_ _)); refine blk_put (cs := #[.int .u64 t242, .int .u64 x239001_1]) ?_ 1 _ rfl; (with_reducible repeat (first | refine blk_drewN ?_ _ | refine blk_drew ?_ | refine blk_alloc ?_ _)); refine blk_put (cs := #[.int .u64 x239000_1, .int .u64 x239001_1]) ?_ 0 _ rfl; (with_reducible repeat (first | refine blk_drewN ?_ _ | refine blk_drew ?_ | refine blk_alloc ?_ _)); exact BK238.out⟩, ⟨by repeat (first | (with_reducible first | exact HB.out | apply below_alloc | apply pw_below_drewN | apply below_drew1 | refine below_set ?_ GE236.out | refine below_set ?_ GE237.out | refine below_set ?_ GE238.out) | exact HB.out)⟩⟩
              · rw [if_neg c49] at H
                have c49b0 : decide (a1 ≤ (Go.bits .or .u64 (IntKind.u64.wrap (x7_1 * 2)) (Go.bits .and .u64 (ji11) 1))) = false := decide_eq_false c49
                clear c49
                have H' := Aside0.mk H
                clear H
                have hnb57 := NB236_237.out
                have hnc57 := NB237_236.out
                have hnb58 := NB236_238.out
                have hnc58 := NB238_236.out
                have hcz59_0 : wr.cell? ⟨gb236, 0, none⟩ = some (.int .u64 a0_0) := (blk_cell BK236.out 0).trans rfl
                have hcz59_1 : wr.cell? ⟨gb236, 1, none⟩ = some (.int .u64 a0_1) := (blk_cell BK236.out 1).trans rfl
                have hfz59_0 := blk_frozen BK236.out 0
                have hfz59_1 := blk_frozen BK236.out 1
                have hnb60 := NB238_237.out
                have hnc60 := NB237_238.out
                have hcz61_0 : wr.cell? ⟨gb238, 0, none⟩ = some (.int .u64 x239000_1) := (blk_cell BK238.out 0).trans rfl
                have hcz61_1 : wr.cell? ⟨gb238, 1, none⟩ = some (.int .u64 x239001_1) := (blk_cell BK238.out 1).trans rfl
                have hfz61_0 := blk_frozen BK238.out 0
                have hfz61_1 := blk_frozen BK238.out 1
                go_wp2_with (first | ((with_reducible refine gate_callee (f := 39) rfl ?_); refine goesL_ (some 39) rfl rfl Try.func39 (by kernel_rfl) rfl #[.agg #[.int .u64 x239000_1, .int .u64 x239001_1], .agg #[.int .u64 x239000_1, .int .u64 x239001_1]] rfl (by (try simp only [List.map_toArray, List.map_cons, List.map_nil]); first | done | rfl | (simp only [List.length_drop, List.length_take]; rfl)) ?_; (with_reducible refine (customsref01_Add.calls x239000_1 x239001_1 x239000_1 x239001_1 t242 t243 t244 _ A40.out).mono ?_); rintro e w62 ⟨rfl, hb⟩; refine ⟨_, rfl, ?_⟩; have n0_ := Aside0.mk (blk_below (g := gb236) (o := .cells #[.int .u64 a0_0, .int .u64 a0_1] 66 (0, 0)) (by (with_reducible repeat (first | refine blk_drewN ?_ _ | refine blk_drew ?_ | refine blk_alloc ?_ _)); exact BK236.out) hb); have n1_ := Aside0.mk (blk_below (g := gb237) (o := .cells #[.int .u64 0, .int .u64 0] 66 (0, 0)) (by (with_reducible repeat (first | refine blk_drewN ?_ _ | refine blk_drew ?_ | refine blk_alloc ?_ _)); exact BK237.out) hb); have n2_ := Aside0.mk (blk_below (g := gb238) (o := .cells #[.int .u64 x239000_1, .int .u64 x239001_1] 66 (0, 0)) (by (with_reducible repeat (first | refine blk_drewN ?_ _ | refine blk_drew ?_ | refine blk_alloc ?_ _)); exact BK238.out) hb); have n3_ := Aside0.mk (below_step (by repeat (first | (with_reducible first | exact HB.out | apply below_alloc | apply pw_below_drewN | apply below_drew1 | refine below_set ?_ GE236.out | refine below_set ?_ GE237.out | refine below_set ?_ GE238.out) | exact HB.out)) hb); clear BK236; clear BK237; clear BK238; clear HB; have BK236 := n0_; have BK237 := n1_; have BK238 := n2_; have HB := n3_; clear n0_ n1_ n2_ n3_; (try clear hb); (try clear hb2); (try clear hk); (try clear hi); have hcz63_0 : w62.cell? ⟨gb238, 0, none⟩ = some (.int .u64 x239000_1) := (blk_cell BK238.out 0).trans rfl; have hcz63_1 : w62.cell? ⟨gb238, 1, none⟩ = some (.int .u64 x239001_1) := (blk_cell BK238.out 1).trans rfl; have hfz63_0 := blk_frozen BK238.out 0; have hfz63_1 := blk_frozen BK238.out 1))
                go_roundg k1
                case measure => have := HK1.out; omega
                case rel => exact ⟨(Go.bits .or .u64 (IntKind.u64.wrap (x7_1 * 2)) (Go.bits .and .u64 (ji11) 1)), (wrap64 (x8_1 - 1)), (t242), (t243), (by first | rfl | (simp; done) | (simp only [← hji11] <;> (first | rfl | simp)) | (simp [*]; done)), (by first | rfl | (simp; done) | (simp [*]; done)), H', ⟨by have := HK1.out; omega⟩, ⟨by (with_reducible repeat (first | refine blk_drewN ?_ _ | refine blk_drew ?_ | refine blk_alloc ?_ _)); refine blk_far ?_ NB236_238.out _; (with_reducible repeat (first | refine blk_drewN ?_ _ | refine blk_drew ?_ | refine blk_alloc ?_ _)); refine blk_far ?_ NB236_238.out _; (with_reducible repeat (first | refine blk_drewN ?_ _ | refine blk_drew ?_ | refine blk_alloc ?_ _)); exact BK236.out⟩, ⟨by (with_reducible repeat (first | refine blk_drewN ?_ _ | refine blk_drew ?_ | refine blk_alloc ?_ _)); refine blk_far ?_ NB237_238.out _; (with_reducible repeat (first | refine blk_drewN ?_ _ | refine blk_drew ?_ | refine blk_alloc ?_ _)); refine blk_far ?_ NB237_238.out _; (with_reducible repeat (first | refine blk_drewN ?_ _ | refine blk_drew ?_ | refine blk_alloc ?_ _)); exact BK237.out⟩, ⟨by (with_reducible repeat (first | refine blk_drewN ?_ _ | refine blk_drew ?_ | refine blk_alloc ?_ _)); refine blk_put (cs := #[.int .u64 t242, .int .u64 x239001_1]) ?_ 1 _ rfl; (with_reducible repeat (first | refine blk_drewN ?_ _ | refine blk_drew ?_ | refine blk_alloc ?_ _)); refine blk_put (cs := #[.int .u64 x239000_1, .int .u64 x239001_1]) ?_ 0 _ rfl; (with_reducible repeat (first | refine blk_drewN ?_ _ | refine blk_drew ?_ | refine blk_alloc ?_ _)); exact BK238.out⟩, ⟨by repeat (first | (with_reducible first | exact HB.out | apply below_alloc | apply pw_below_drewN | apply below_drew1 | refine below_set ?_ GE236.out | refine below_set ?_ GE237.out | refine below_set ?_ GE238.out) | exact HB.out)⟩⟩
        · rw [if_neg c10] at H
          exact absurd H (by simp)
      · rw [if_neg c9] at H
        have c9b0 : decide (0 ≤ x8_1) = false := decide_eq_false c9
        clear c9
        simp only [Option.some.injEq, Prod.mk.injEq] at H
        obtain ⟨rfl, rfl, rfl⟩ := H
        have hnb64 := NB238_236.out
        have hnc64 := NB236_238.out
        have hnb65 := NB238_237.out
        have hnc65 := NB237_238.out
        have hcz66_0 : wr.cell? ⟨gb238, 0, none⟩ = some (.int .u64 x239000_1) := (blk_cell BK238.out 0).trans rfl
        have hcz66_1 : wr.cell? ⟨gb238, 1, none⟩ = some (.int .u64 x239001_1) := (blk_cell BK238.out 1).trans rfl
        have hfz66_0 := blk_frozen BK238.out 0
        have hfz66_1 := blk_frozen BK238.out 1
        have hnb67 := NB237_236.out
        have hnc67 := NB236_237.out
        have hcz68_0 : wr.cell? ⟨gb237, 0, none⟩ = some (.int .u64 0) := (blk_cell BK237.out 0).trans rfl
        have hcz68_1 : wr.cell? ⟨gb237, 1, none⟩ = some (.int .u64 0) := (blk_cell BK237.out 1).trans rfl
        have hfz68_0 := blk_frozen BK237.out 0
        have hfz68_1 := blk_frozen BK237.out 1
        go_wp2
        refine bodyPost_ret (results_ct rfl _ _ gb237 66 #[.int .u64 x239000_1, .int .u64 x239001_1] (0, 0) _ rfl (by (with_reducible repeat (first | refine blk_drewN ?_ _ | refine blk_drew ?_ | refine blk_alloc ?_ _)); refine blk_put (cs := #[.int .u64 x239000_1, .int .u64 0]) ?_ 1 _ rfl; (with_reducible repeat (first | refine blk_drewN ?_ _ | refine blk_drew ?_ | refine blk_alloc ?_ _)); refine blk_put (cs := #[.int .u64 0, .int .u64 0]) ?_ 0 _ rfl; (with_reducible repeat (first | refine blk_drewN ?_ _ | refine blk_drew ?_ | refine blk_alloc ?_ _)); exact BK237.out) Try.underlying66 rfl (by kernel_rfl)) rfl ?_
        exact ⟨by first | rfl | (simp [errW_none, errW_some] <;> rfl) | (simp [*, errW_none, errW_some] <;> rfl) | (simp (disch := first | assumption | omega) only [Int.tdiv_eq_ediv_of_nonneg, Int.tmod_eq_emod_of_nonneg]; rfl), by repeat (first | (with_reducible first | exact HB.out | apply below_alloc | apply pw_below_drewN | apply below_drew1 | refine below_set ?_ GE236.out | refine below_set ?_ GE237.out | refine below_set ?_ GE238.out) | exact HB.out)⟩

end Go.Proofs.Ytpmdlhncfggjkaa.PX
end
section
namespace Go.Proofs.Ytpmdlhncfggjkaa.PX
open Go.RowKit Go.Proofs.YtpmdlhncfggjkaaW.PrintWords Go.Proofs.YtpmdlhncfggjkaaW.PrintLast Go.Proofs.YtpmdlhncfggjkaaW.PrintMore
attribute [local go_sem] max2_int min2_int max_two min_two max_three min_three max_four min_four   -- for this text's walks alone
set_option linter.unusedVariables false
set_option linter.unusedSimpArgs false

/-! ### customsref01_Div: function 34 -/
mutual
def customsref01_Div.j0 : Nat → Int → Int → Bool → Int → Int → Option (Int × Int)
  | 0, _, _, _, _, _ => none
  | k + 1, x1, x2, x20, x246000, x246001 => if x20 = true then (some (0, 2)) else ((customsref01_DivMod.f k x246000 x246001 x1).bind fun bt246 => (if x2 = 1 then (customsref01_Div.j1 k (decide (bt246.2.2 > 0)) bt246.1 bt246.2.1) else (if x2 = 2 then (customsref01_Div.j1 k (decide (bt246.2.2 ≥ (IntKind.u64.wrap (x1 - bt246.2.2)))) bt246.1 bt246.2.1) else (if x2 = 3 then (if bt246.2.2 > (IntKind.u64.wrap (x1 - bt246.2.2)) then (customsref01_Div.j1 k true bt246.1 bt246.2.1) else (if bt246.2.2 = (IntKind.u64.wrap (x1 - bt246.2.2)) then (customsref01_Div.j1 k ((Go.bits .and .u64 bt246.2.1 1) == 1) bt246.1 bt246.2.1) else (customsref01_Div.j1 k false bt246.1 bt246.2.1))) else (customsref01_Div.j1 k false bt246.1 bt246.2.1)))))
def customsref01_Div.j1 : Nat → Bool → Int → Int → Option (Int × Int)
  | 0, _, _, _ => none
  | k + 1, x10, x250000, x250001 => if x10 = true then ((customsref01_Add.f x250000 x250001 0 1).bind fun bt250 => (if bt250.1 > 0 then (some (0, 3)) else (some (bt250.2.1, 0)))) else (if x250000 > 0 then (some (0, 3)) else (some (x250001, 0)))
end
def customsref01_Div.f (k : Nat) (a0_0 : Int) (a0_1 : Int) (a1 : Int) (a2 : Int) : Option (Int × Int) := if a1 = 0 then (customsref01_Div.j0 k a1 a2 true a0_0 a0_1) else (if a2 < 0 then (customsref01_Div.j0 k a1 a2 true a0_0 a0_1) else (customsref01_Div.j0 k a1 a2 (decide (a2 > 3)) a0_0 a0_1))
set_option maxHeartbeats 8000000 in
set_option maxRecDepth 100000 in
theorem customsref01_Div.calls (k : Nat) (a0_0 : Int) (a0_1 : Int) (a1 : Int) (a2 : Int) (r1 : Int) (r2 : Int) (w : World) (h : customsref01_Div.f k a0_0 a0_1 a1 a2 = some (r1, r2)) :
    Calls Try.prog 34 #[.agg #[.int .u64 a0_0, .int .u64 a0_1], .int .u64 a1, .int .i64 a2] w fun e w' => e = .returned (.tuple #[.int .u64 r1, .int .i64 r2]) ∧ Below w.heap.size w w' := by
  have hu66 := Try.underlying66
  have HB := Aside0.mk (Below.refl w.heap.size w)
  have H : (if a1 = 0 then (customsref01_Div.j0 k a1 a2 true a0_0 a0_1) else (if a2 < 0 then (customsref01_Div.j0 k a1 a2 true a0_0 a0_1) else (customsref01_Div.j0 k a1 a2 (decide (a2 > 3)) a0_0 a0_1))) = some (r1, r2) := h
  clear h
  have HC4 := Aside0.mk H
  clear H
  go_enter Try.func34, Try.ntmps34
  go_upto_region 1 with (first | ((with_reducible refine gate_dst (N := 3) rfl ?_); refine box_event ?hg (N := 3) ?hd (cs := #[.int .u64 a0_0, .int .u64 a0_1]) (t := 66) ?hr ?_; (case hd => rfl); (case hg => rfl); (case hr => first | (go_simp; done) | (go_simp; rfl)); intro gb245 hg w5 hbox hb; have n0_ := Aside0.mk (below_step (by repeat (first | (with_reducible first | exact HB.out | apply below_alloc | apply pw_below_drewN | apply below_drew1) | exact HB.out)) hb); have n1_ := Aside0.mk (hbox); have n2_ := Aside0.mk ((by rw [hg]; exact (below_size (by repeat (first | (with_reducible first | exact HB.out | apply below_alloc | apply pw_below_drewN | apply below_drew1) | exact HB.out))) : w.heap.size ≤ gb245)); have n3_ := Aside0.mk ((by rw [hg]; exact (below_size (by repeat (first | (with_reducible first | exact HB.out | apply below_alloc | apply pw_below_drewN | apply below_drew1) | exact HB.out))) : w.heap.size ≤ gb245)); clear HB; have HB := n0_; have BK245 := n1_; have GW245 := n2_; have GE245 := n3_; clear n0_ n1_ n2_ n3_; clear hb hbox hg))
  (try simp only [Act.put, List.setIfInBounds_toArray, List.set_cons_zero, List.set_cons_succ])
  go_cut [20] (fun v20 wc => ∃ (kq : Nat) (x20_3 : Bool), v20 = .bool x20_3 ∧ Aside0 (customsref01_Div.j0 kq a1 a2 x20_3 a0_0 a0_1 = some (r1, r2)) ∧ Aside0 (kq ≤ k) ∧ Aside0 (wc.heap[gb245]? = some (.cells #[.int .u64 a0_0, .int .u64 a0_1] 66 (0, 0))) ∧ Aside0 (Below w.heap.size w wc))
  case first =>
    have H := HC4.out
    clear HC4
    by_cases c6 : a1 = 0
    · rw [if_pos c6] at H
      have c6b0 : (a1 == 0) = true := beq_iff_eq.mpr c6
      have c6b1 : (a1 != 0) = false := bne_eq_false_iff_eq.mpr c6
      clear c6
      (first | rw [c6b0] | (simp only [i64_w, i32_w]; rw [c6b0]) | skip)
      have H' := Aside0.mk H
      clear H
      go_wp2
      go_meet
      case rel => exact ⟨_, (true), (by first | rfl | (simp; done) | (simp [*]; done)), H', ⟨by first | omega | exact Nat.le_refl _⟩, ⟨by (with_reducible repeat (first | refine blk_drewN ?_ _ | refine blk_drew ?_ | refine blk_alloc ?_ _)); exact BK245.out⟩, ⟨by repeat (first | (with_reducible first | exact HB.out | apply below_alloc | apply pw_below_drewN | apply below_drew1 | refine below_set ?_ GE245.out) | exact HB.out)⟩⟩
    · rw [if_neg c6] at H
      have c6b0 : (a1 == 0) = false := beq_eq_false_iff_ne.mpr c6
      have c6b1 : (a1 != 0) = true := bne_iff_ne.mpr c6
      (first | rw [c6b0] | (simp only [i64_w, i32_w]; rw [c6b0]) | skip)
      by_cases c7 : a2 < 0
      · rw [if_pos c7] at H
        have c7b0 : decide (a2 < 0) = true := decide_eq_true c7
        clear c7
        have H' := Aside0.mk H
        clear H
        go_wp2
        go_meet
        case rel => exact ⟨_, (true), (by first | rfl | (simp; done) | (simp [*]; done)), H', ⟨by first | omega | exact Nat.le_refl _⟩, ⟨by (with_reducible repeat (first | refine blk_drewN ?_ _ | refine blk_drew ?_ | refine blk_alloc ?_ _)); exact BK245.out⟩, ⟨by repeat (first | (with_reducible first | exact HB.out | apply below_alloc | apply pw_below_drewN | apply below_drew1 | refine below_set ?_ GE245.out) | exact HB.out)⟩⟩
      · rw [if_neg c7] at H
        have c7b0 : decide (a2 < 0) = false := decide_eq_false c7
        clear c7
        have H' := Aside0.mk H
        clear H
        go_wp2
        go_meet
        case rel => exact ⟨_, (decide (a2 > 3)), (by first | rfl | (simp; done) | (simp [*]; done)), H', ⟨by first | omega | exact Nat.le_refl _⟩, ⟨by (with_reducible repeat (first | refine blk_drewN ?_ _ | refine blk_drew ?_ | refine blk_alloc ?_ _)); exact BK245.out⟩, ⟨by repeat (first | (with_reducible first | exact HB.out | apply below_alloc | apply pw_below_drewN | apply below_drew1 | refine below_set ?_ GE245.out) | exact HB.out)⟩⟩
  case rest =>
    clear HC4
    try clear p2
    try clear c3
    try clear c6
    try clear c6b0
    try clear c6b1
    try clear c7
    try clear c7b0
    obtain ⟨kq, x20_3, rfl, HA, HJ3, BK245, HB⟩ := hcut
    cases kq with
    | zero => exact absurd HA.out (by simp [customsref01_Div.j0])
    | succ kj3 =>
      have H := HA.out
      clear HA
      simp only [customsref01_Div.j0] at H
      by_cases c8 : x20_3 = true
      · subst c8
        have H1 : (some (0, 2)) = some (r1, r2) := by rw [if_pos rfl] at H; exact H
        clear H
        have H := H1
        clear H1
        simp only [Option.some.injEq, Prod.mk.injEq] at H
        obtain ⟨rfl, rfl⟩ := H
        go_wp2
        go_ret2
        exact ⟨by first | rfl | (simp [errW_none, errW_some] <;> rfl) | (simp [*, errW_none, errW_some] <;> rfl) | (simp (disch := first | assumption | omega) only [Int.tdiv_eq_ediv_of_nonneg, Int.tmod_eq_emod_of_nonneg]; rfl), by repeat (first | (with_reducible first | exact HB.out | apply below_alloc | apply pw_below_drewN | apply below_drew1 | refine below_set ?_ GE245.out) | exact HB.out)⟩
      · replace c8 := Bool.eq_false_iff.mpr c8
        subst c8
        have H1 : ((customsref01_DivMod.f kj3 a0_0 a0_1 a1).bind fun bt246 => (if a2 = 1 then (customsref01_Div.j1 kj3 (decide (bt246.2.2 > 0)) bt246.1 bt246.2.1) else (if a2 = 2 then (customsref01_Div.j1 kj3 (decide (bt246.2.2 ≥ (IntKind.u64.wrap (a1 - bt246.2.2)))) bt246.1 bt246.2.1) else (if a2 = 3 then (if bt246.2.2 > (IntKind.u64.wrap (a1 - bt246.2.2)) then (customsref01_Div.j1 kj3 true bt246.1 bt246.2.1) else (if bt246.2.2 = (IntKind.u64.wrap (a1 - bt246.2.2)) then (customsref01_Div.j1 kj3 ((Go.bits .and .u64 bt246.2.1 1) == 1) bt246.1 bt246.2.1) else (customsref01_Div.j1 kj3 false bt246.1 bt246.2.1))) else (customsref01_Div.j1 kj3 false bt246.1 bt246.2.1))))) = some (r1, r2) := by rw [if_neg (show ¬ (false = true) by decide)] at H; exact H
        clear H
        have H := H1
        clear H1
        replace H := Option.bind_eq_some_iff.mp H
        obtain ⟨⟨t246, t247, t248⟩, A90, H⟩ := H
        replace H : (if a2 = 1 then (customsref01_Div.j1 kj3 (decide (t248 > 0)) t246 t247) else (if a2 = 2 then (customsref01_Div.j1 kj3 (decide (t248 ≥ (IntKind.u64.wrap (a1 - t248)))) t246 t247) else (if a2 = 3 then (if t248 > (IntKind.u64.wrap (a1 - t248)) then (customsref01_Div.j1 kj3 true t246 t247) else (if t248 = (IntKind.u64.wrap (a1 - t248)) then (customsref01_Div.j1 kj3 ((Go.bits .and .u64 t247 1) == 1) t246 t247) else (customsref01_Div.j1 kj3 false t246 t247))) else (customsref01_Div.j1 kj3 false t246 t247)))) = some (r1, r2) := H
        have A9 := Aside0.mk A90
        clear A90
        have HC10 := Aside0.mk H
        clear H
        have hcz11_0 : wc.cell? ⟨gb245, 0, none⟩ = some (.int .u64 a0_0) := (blk_cell BK245.out 0).trans rfl
        have hcz11_1 : wc.cell? ⟨gb245, 1, none⟩ = some (.int .u64 a0_1) := (blk_cell BK245.out 1).trans rfl
        have hfz11_0 := blk_frozen BK245.out 0
        have hfz11_1 := blk_frozen BK245.out 1
        go_upto_block 0 with (first | ((with_reducible refine gate_callee (f := 38) rfl ?_); refine goesL_ (some 24) rfl rfl Try.func38 (by kernel_rfl) rfl #[.agg #[.int .u64 a0_0, .int .u64 a0_1], .int .u64 a1] rfl (by (try simp only [List.map_toArray, List.map_cons, List.map_nil]); first | done | rfl | (simp only [List.length_drop, List.length_take]; rfl)) ?_; (with_reducible refine (customsref01_DivMod.calls kj3 a0_0 a0_1 a1 t246 t247 t248 _ A9.out).mono ?_); rintro e w12 ⟨rfl, hb⟩; refine ⟨_, rfl, ?_⟩; have n0_ := Aside0.mk (blk_below (g := gb245) (o := .cells #[.int .u64 a0_0, .int .u64 a0_1] 66 (0, 0)) (by (with_reducible repeat (first | refine blk_drewN ?_ _ | refine blk_drew ?_ | refine blk_alloc ?_ _)); exact BK245.out) hb); have n1_ := Aside0.mk (below_step (by repeat (first | (with_reducible first | exact HB.out | apply below_alloc | apply pw_below_drewN | apply below_drew1 | refine below_set ?_ GE245.out) | exact HB.out)) hb); clear BK245; clear HB; have BK245 := n0_; have HB := n1_; clear n0_ n1_; (try clear hb); (try clear hb2); (try clear hk); (try clear hi)) | ((with_reducible refine gate_dst (N := 8) rfl ?_); refine box_event ?hg (N := 8) ?hd (cs := #[.int .u64 0, .int .u64 0]) (t := 66) ?hr ?_; (case hd => rfl); (case hg => rfl); (case hr => first | (go_simp; done) | (go_simp; rfl)); intro gb249 hg w13 hbox hb; have n0_ := Aside0.mk (blk_below (g := gb245) (o := .cells #[.int .u64 a0_0, .int .u64 a0_1] 66 (0, 0)) (by (with_reducible repeat (first | refine blk_drewN ?_ _ | refine blk_drew ?_ | refine blk_alloc ?_ _)); exact BK245.out) hb); have n1_ := Aside0.mk (below_step (by repeat (first | (with_reducible first | exact HB.out | apply below_alloc | apply pw_below_drewN | apply below_drew1 | refine below_set ?_ GE245.out) | exact HB.out)) hb); have n2_ := Aside0.mk (hbox); have n3_ := Aside0.mk ((by rw [hg]; exact (below_size (by repeat (first | (with_reducible first | exact HB.out | apply below_alloc | apply pw_below_drewN | apply below_drew1 | refine below_set ?_ GE245.out) | exact HB.out))) : w.heap.size ≤ gb249)); have n4_ := Aside0.mk ((by rw [hg]; exact (below_size (by repeat (first | (with_reducible first | exact HB.out | apply below_alloc | apply pw_below_drewN | apply below_drew1 | refine below_set ?_ GE245.out) | exact HB.out))) : w.heap.size ≤ gb249)); have n5_ := Aside0.mk ((by rw [hg]; exact Nat.ne_of_lt (blk_lt (g := gb245) (o := .cells #[.int .u64 a0_0, .int .u64 a0_1] 66 (0, 0)) (by (with_reducible repeat (first | refine blk_drewN ?_ _ | refine blk_drew ?_ | refine blk_alloc ?_ _)); exact BK245.out)) : gb245 ≠ gb249)); have n6_ := Aside0.mk ((by rw [hg]; exact Nat.ne_of_gt (blk_lt (g := gb245) (o := .cells #[.int .u64 a0_0, .int .u64 a0_1] 66 (0, 0)) (by (with_reducible repeat (first | refine blk_drewN ?_ _ | refine blk_drew ?_ | refine blk_alloc ?_ _)); exact BK245.out)) : gb249 ≠ gb245)); clear BK245; clear HB; have BK245 := n0_; have HB := n1_; have BK249 := n2_; have GW249 := n3_; have GE249 := n4_; have NB245_249 := n5_; have NB249_245 := n6_; clear n0_ n1_ n2_ n3_ n4_ n5_ n6_; clear hb hbox hg; have hnb14 := NB249_245.out; have hnc14 := NB245_249.out; have hcz15_0 : w13.cell? ⟨gb249, 0, none⟩ = some (.int .u64 0) := (blk_cell BK249.out 0).trans rfl; have hcz15_1 : w13.cell? ⟨gb249, 1, none⟩ = some (.int .u64 0) := (blk_cell BK249.out 1).trans rfl; have hfz15_0 := blk_frozen BK249.out 0; have hfz15_1 := blk_frozen BK249.out 1))
        (try simp only [Act.put, List.setIfInBounds_toArray, List.set_cons_zero, List.set_cons_succ])
        go_cut [10] (fun v10 wc => ∃ (kq : Nat) (x10_9 : Bool), v10 = .bool x10_9 ∧ Aside0 (customsref01_Div.j1 kq x10_9 t246 t247 = some (r1, r2)) ∧ Aside0 (kq ≤ kj3) ∧ Aside0 (wc.heap[gb245]? = some (.cells #[.int .u64 a0_0, .int .u64 a0_1] 66 (0, 0))) ∧ Aside0 (wc.heap[gb249]? = some (.cells #[.int .u64 t246, .int .u64 t247] 66 (0, 0))) ∧ Aside0 (Below w.heap.size w wc))
        case first =>
          have H := HC10.out
          clear HC10
          by_cases c16 : a2 = 1
          · rw [if_pos c16] at H
            have c16b0 : (a2 == 1) = true := beq_iff_eq.mpr c16
            have c16b1 : (a2 != 1) = false := bne_eq_false_iff_eq.mpr c16
            clear c16
            (first | rw [c16b0] | (simp only [i64_w, i32_w]; rw [c16b0]) | skip)
            have H' := Aside0.mk H
            clear H
            go_wp2
            go_meet
            case rel => exact ⟨_, (decide (t248 > 0)), (by first | rfl | (simp; done) | (simp [*]; done)), H', ⟨by have := HJ3.out; first | omega | exact Nat.le_refl _⟩, ⟨by (with_reducible repeat (first | refine blk_drewN ?_ _ | refine blk_drew ?_ | refine blk_alloc ?_ _)); refine blk_far ?_ NB245_249.out _; (with_reducible repeat (first | refine blk_drewN ?_ _ | refine blk_drew ?_ | refine blk_alloc ?_ _)); refine blk_far ?_ NB245_249.out _; (with_reducible repeat (first | refine blk_drewN ?_ _ | refine blk_drew ?_ | refine blk_alloc ?_ _)); exact BK245.out⟩, ⟨by (with_reducible repeat (first | refine blk_drewN ?_ _ | refine blk_drew ?_ | refine blk_alloc ?_ _)); refine blk_put (cs := #[.int .u64 t246, .int .u64 0]) ?_ 1 _ rfl; (with_reducible repeat (first | refine blk_drewN ?_ _ | refine blk_drew ?_ | refine blk_alloc ?_ _)); refine blk_put (cs := #[.int .u64 0, .int .u64 0]) ?_ 0 _ rfl; (with_reducible repeat (first | refine blk_drewN ?_ _ | refine blk_drew ?_ | refine blk_alloc ?_ _)); exact BK249.out⟩, ⟨by repeat (first | (with_reducible first | exact HB.out | apply below_alloc | apply pw_below_drewN | apply below_drew1 | refine below_set ?_ GE245.out | refine below_set ?_ GE249.out) | exact HB.out)⟩⟩
          · rw [if_neg c16] at H
            have c16b0 : (a2 == 1) = false := beq_eq_false_iff_ne.mpr c16
            have c16b1 : (a2 != 1) = true := bne_iff_ne.mpr c16
            (first | rw [c16b0] | (simp only [i64_w, i32_w]; rw [c16b0]) | skip)
            by_cases c17 : a2 = 2
            · rw [if_pos c17] at H
              have c17b0 : (a2 == 2) = true := beq_iff_eq.mpr c17
              have c17b1 : (a2 != 2) = false := bne_eq_false_iff_eq.mpr c17
              clear c17
              have H' := Aside0.mk H
              clear H
              go_wp2
              go_meet
              case rel => exact ⟨_, (decide (t248 ≥ (IntKind.u64.wrap (a1 - t248)))), (by first | rfl | (simp; done) | (simp [*]; done)), H', ⟨by have := HJ3.out; first | omega | exact Nat.le_refl _⟩, ⟨by (with_reducible repeat (first | refine blk_drewN ?_ _ | refine blk_drew ?_ | refine blk_alloc ?_ _)); refine blk_far ?_ NB245_249.out _; (with_reducible repeat (first | refine blk_drewN ?_ _ | refine blk_drew ?_ | refine blk_alloc ?_ _)); refine blk_far ?_ NB245_249.out _; (with_reducible repeat (first | refine blk_drewN ?_ _ | refine blk_drew ?_ | refine blk_alloc ?_ _)); exact BK245.out⟩, ⟨by (with_reducible repeat (first | refine blk_drewN ?_ _ | refine blk_drew ?_ | refine blk_alloc ?_ _)); refine blk_put (cs := #[.int .u64 t246, .int .u64 0]) ?_ 1 _ rfl; (with_reducible repeat (first | refine blk_drewN ?_ _ | refine blk_drew ?_ | refine blk_alloc ?_ _)); refine blk_put (cs := #[.int .u64 0, .int .u64 0]) ?_ 0 _ rfl; (with_reducible repeat (first | refine blk_drewN ?_ _ | refine blk_drew ?_ | refine blk_alloc ?_ _)); exact BK249.out⟩, ⟨by repeat (first | (with_reducible first | exact HB.out | apply below_alloc | apply pw_below_drewN | apply below_drew1 | refine below_set ?_ GE245.out | refine below_set ?_ GE249.out) | exact HB.out)⟩⟩
            · rw [if_neg c17] at H
              have c17b0 : (a2 == 2) = false := beq_eq_false_iff_ne.mpr c17
              have c17b1 : (a2 != 2) = true := bne_iff_ne.mpr c17
              by_cases c18 : a2 = 3
              · rw [if_pos c18] at H
                have c18b0 : (a2 == 3) = true := beq_iff_eq.mpr c18
                have c18b1 : (a2 != 3) = false := bne_eq_false_iff_eq.mpr c18
                clear c18
                by_cases c19 : t248 > (IntKind.u64.wrap (a1 - t248))
                · rw [if_pos c19] at H
                  have c19b0 : decide ((IntKind.u64.wrap (a1 - t248)) < t248) = true := decide_eq_true c19
                  clear c19
                  have H' := Aside0.mk H
                  clear H
                  go_wp2
                  go_meet
                  case rel => exact ⟨_, (true), (by first | rfl | (simp; done) | (simp [*]; done)), H', ⟨by have := HJ3.out; first | omega | exact Nat.le_refl _⟩, ⟨by (with_reducible repeat (first | refine blk_drewN ?_ _ | refine blk_drew ?_ | refine blk_alloc ?_ _)); refine blk_far ?_ NB245_249.out _; (with_reducible repeat (first | refine blk_drewN ?_ _ | refine blk_drew ?_ | refine blk_alloc ?_ _)); refine blk_far ?_ NB245_249.out _; (with_reducible repeat (first | refine blk_drewN ?_ _ | refine blk_drew ?_ | refine blk_alloc ?_ _)); exact BK245.out⟩, ⟨by (with_reducible repeat (first | refine blk_drewN ?_ _ | refine blk_drew ?_ | refine blk_alloc ?_ _)); refine blk_put (cs := #[.int .u64 t246, .int .u64 0]) ?_ 1 _ rfl; (with_reducible repeat (first | refine blk_drewN ?_ _ | refine blk_drew ?_ | refine blk_alloc ?_ _)); refine blk_put (cs := #[.int .u64 0, .int .u64 0]) ?_ 0 _ rfl; (with_reducible repeat (first | refine blk_drewN ?_ _ | refine blk_drew ?_ | refine blk_alloc ?_ _)); exact BK249.out⟩, ⟨by repeat (first | (with_reducible first | exact HB.out | apply below_alloc | apply pw_below_drewN | apply below_drew1 | refine below_set ?_ GE245.out | refine below_set ?_ GE249.out) | exact HB.out)⟩⟩
                · rw [if_neg c19] at H
                  have c19b0 : decide ((IntKind.u64.wrap (a1 - t248)) < t248) = false := decide_eq_false c19
                  clear c19
                  by_cases c20 : t248 = (IntKind.u64.wrap (a1 - t248))
                  · rw [if_pos c20] at H
                    have c20b0 : (t248 == (IntKind.u64.wrap (a1 - t248))) = true := beq_iff_eq.mpr c20
                    have c20b1 : (t248 != (IntKind.u64.wrap (a1 - t248))) = false := bne_eq_false_iff_eq.mpr c20
                    clear c20
                    have H' := Aside0.mk H
                    clear H
                    have hnb21 := NB249_245.out
                    have hnc21 := NB245_249.out
                    have hcz22_0 : w13.cell? ⟨gb249, 0, none⟩ = some (.int .u64 0) := (blk_cell BK249.out 0).trans rfl
                    have hcz22_1 : w13.cell? ⟨gb249, 1, none⟩ = some (.int .u64 0) := (blk_cell BK249.out 1).trans rfl
                    have hfz22_0 := blk_frozen BK249.out 0
                    have hfz22_1 := blk_frozen BK249.out 1
                    go_wp2
                    go_meet
                    case rel => exact ⟨_, (((Go.bits .and .u64 t247 1) == 1)), (by first | rfl | (simp; done) | (simp [*]; done)), H', ⟨by have := HJ3.out; first | omega | exact Nat.le_refl _⟩, ⟨by (with_reducible repeat (first | refine blk_drewN ?_ _ | refine blk_drew ?_ | refine blk_alloc ?_ _)); refine blk_far ?_ NB245_249.out _; (with_reducible repeat (first | refine blk_drewN ?_ _ | refine blk_drew ?_ | refine blk_alloc ?_ _)); refine blk_far ?_ NB245_249.out _; (with_reducible repeat (first | refine blk_drewN ?_ _ | refine blk_drew ?_ | refine blk_alloc ?_ _)); exact BK245.out⟩, ⟨by (with_reducible repeat (first | refine blk_drewN ?_ _ | refine blk_drew ?_ | refine blk_alloc ?_ _)); refine blk_put (cs := #[.int .u64 t246, .int .u64 0]) ?_ 1 _ rfl; (with_reducible repeat (first | refine blk_drewN ?_ _ | refine blk_drew ?_ | refine blk_alloc ?_ _)); refine blk_put (cs := #[.int .u64 0, .int .u64 0]) ?_ 0 _ rfl; (with_reducible repeat (first | refine blk_drewN ?_ _ | refine blk_drew ?_ | refine blk_alloc ?_ _)); exact BK249.out⟩, ⟨by repeat (first | (with_reducible first | exact HB.out | apply below_alloc | apply pw_below_drewN | apply below_drew1 | refine below_set ?_ GE245.out | refine below_set ?_ GE249.out) | exact HB.out)⟩⟩
                  · rw [if_neg c20] at H
                    have c20b0 : (t248 == (IntKind.u64.wrap (a1 - t248))) = false := beq_eq_false_iff_ne.mpr c20
                    have c20b1 : (t248 != (IntKind.u64.wrap (a1 - t248))) = true := bne_iff_ne.mpr c20
                    have H' := Aside0.mk H
                    clear H
                    go_wp2
                    go_meet
                    case rel => exact ⟨_, (false), (by first | rfl | (simp; done) | (simp [*]; done)), H', ⟨by have := HJ3.out; first | omega | exact Nat.le_refl _⟩, ⟨by (with_reducible repeat (first | refine blk_drewN ?_ _ | refine blk_drew ?_ | refine blk_alloc ?_ _)); refine blk_far ?_ NB245_249.out _; (with_reducible repeat (first | refine blk_drewN ?_ _ | refine blk_drew ?_ | refine blk_alloc ?_ _)); refine blk_far ?_ NB245_249.out _; (with_reducible repeat (first | refine blk_drewN ?_ _ | refine blk_drew ?_ | refine blk_alloc ?_ _)); exact BK245.out⟩, ⟨by (with_reducible repeat (first | refine blk_drewN ?_ _ | refine blk_drew ?_ | refine blk_alloc ?_ _)); refine blk_put (cs := #[.int .u64 t246, .int .u64 0]) ?_ 1 _ rfl; (with_reducible repeat (first | refine blk_drewN ?_ _ | refine blk_drew ?_ | refine blk_alloc ?_ _)); refine blk_put (cs := #[.int .u64 0, .int .u64 0]) ?_ 0 _ rfl; (with_reducible repeat (first | refine blk_drewN ?_ _ | refine blk_drew ?_ | refine blk_alloc ?_ _)); exact BK249.out⟩, ⟨by repeat (first | (with_reducible first | exact HB.out | apply below_alloc | apply pw_below_drewN | apply below_drew1 | refine below_set ?_ GE245.out | refine below_set ?_ GE249.out) | exact HB.out)⟩⟩
              · rw [if_neg c18] at H
                have c18b0 : (a2 == 3) = false := beq_eq_false_iff_ne.mpr c18
                have c18b1 : (a2 != 3) = true := bne_iff_ne.mpr c18
                have H' := Aside0.mk H
                clear H
                go_wp2
                go_meet
                case rel => exact ⟨_, (false), (by first | rfl | (simp; done) | (simp [*]; done)), H', ⟨by have := HJ3.out; first | omega | exact Nat.le_refl _⟩, ⟨by (with_reducible repeat (first | refine blk_drewN ?_ _ | refine blk_drew ?_ | refine blk_alloc ?_ _)); refine blk_far ?_ NB245_249.out _; (with_reducible repeat (first | refine blk_drewN ?_ _ | refine blk_drew ?_ | refine blk_alloc ?_ _)); refine blk_far ?_ NB245_249.out _; (with_reducible repeat (first | refine blk_drewN ?_ _ | refine blk_drew ?_ | refine blk_alloc ?_ _)); exact BK245.out⟩, ⟨by (with_reducible repeat (first | refine blk_drewN ?_ _ | refine blk_drew ?_ | refine blk_alloc ?_ _)); refine blk_put (cs := #[.int .u64 t246, .int .u64 0]) ?_ 1 _ rfl; (with_reducible repeat (first | refine blk_drewN ?_ _ | refine blk_drew ?_ | refine blk_alloc ?_ _)); refine blk_put (cs := #[.int .u64 0, .int .u64 0]) ?_ 0 _ rfl; (with_reducible repeat (first | refine blk_drewN ?_ _ | refine blk_drew ?_ | refine blk_alloc ?_ _)); exact BK249.out⟩, ⟨by repeat (first | (with_reducible first | exact HB.out | apply below_alloc | apply pw_below_drewN | apply below_drew1 | refine below_set ?_ GE245.out | refine below_set ?_ GE249.out) | exact HB.out)⟩⟩
        case rest =>
          clear HC10
          try clear c1
          try clear c2
          try clear p2
          try clear c3
          try clear c6
          try clear c6b0
          try clear c6b1
          try clear c7
          try clear c7b0
          try clear c8
          try clear c14
          try clear c16
          try clear c16b0
          try clear c16b1
          try clear c17
          try clear c17b0
          try clear c17b1
          try clear c18
          try clear c18b0
          try clear c18b1
          try clear c19
          try clear c19b0
          try clear c20
          try clear c20b0
          try clear c20b1
          try clear c21
          try clear hcz11_0
          try clear hcz11_1
          try clear hcz15_0
          try clear hcz15_1
          try clear hcz22_0
          try clear hcz22_1
          try clear hfz11_0
          try clear hfz11_1
          try clear hfz15_0
          try clear hfz15_1
          try clear hfz22_0
          try clear hfz22_1
          try clear p2
          obtain ⟨kq, x10_9, rfl, HA, HJ9, BK245, BK249, HB⟩ := hcut
          cases kq with
          | zero => exact absurd HA.out (by simp [customsref01_Div.j1])
          | succ kj9 =>
            have H := HA.out
            clear HA
            simp only [customsref01_Div.j1] at H
            by_cases c23 : x10_9 = true
            · subst c23
              have H1 : ((customsref01_Add.f t246 t247 0 1).bind fun bt250 => (if bt250.1 > 0 then (some (0, 3)) else (some (bt250.2.1, 0)))) = some (r1, r2) := by rw [if_pos rfl] at H; exact H
              clear H
              have H := H1
              clear H1
              replace H := Option.bind_eq_some_iff.mp H
              obtain ⟨⟨t250, t251, t252⟩, A240, H⟩ := H
              replace H : (if t250 > 0 then (some (0, 3)) else (some (t251, 0))) = some (r1, r2) := H
              have A24 := Aside0.mk A240
              clear A240
              by_cases c25 : t250 > 0
              · rw [if_pos c25] at H
                have c25b0 : decide (0 < t250) = true := decide_eq_true c25
                clear c25
                simp only [Option.some.injEq, Prod.mk.injEq] at H
                obtain ⟨rfl, rfl⟩ := H
                have hnb26 := NB249_245.out
                have hnc26 := NB245_249.out
                have hcz27_0 : wc.cell? ⟨gb249, 0, none⟩ = some (.int .u64 t246) := (blk_cell BK249.out 0).trans rfl
                have hcz27_1 : wc.cell? ⟨gb249, 1, none⟩ = some (.int .u64 t247) := (blk_cell BK249.out 1).trans rfl
                have hfz27_0 := blk_frozen BK249.out 0
                have hfz27_1 := blk_frozen BK249.out 1
                go_wp2_with (first | ((with_reducible refine gate_callee (f := 39) rfl ?_); refine goesL_ (some 63) rfl rfl Try.func39 (by kernel_rfl) rfl #[.agg #[.int .u64 t246, .int .u64 t247], .agg #[.int .u64 0, .int .u64 1]] rfl (by (try simp only [List.map_toArray, List.map_cons, List.map_nil]); first | done | rfl | (simp only [List.length_drop, List.length_take]; rfl)) ?_; (with_reducible refine (customsref01_Add.calls t246 t247 0 1 t250 t251 t252 _ A24.out).mono ?_); rintro e w28 ⟨rfl, hb⟩; refine ⟨_, rfl, ?_⟩; have n0_ := Aside0.mk (blk_below (g := gb245) (o := .cells #[.int .u64 a0_0, .int .u64 a0_1] 66 (0, 0)) (by (with_reducible repeat (first | refine blk_drewN ?_ _ | refine blk_drew ?_ | refine blk_alloc ?_ _)); exact BK245.out) hb); have n1_ := Aside0.mk (blk_below (g := gb249) (o := .cells #[.int .u64 t246, .int .u64 t247] 66 (0, 0)) (by (with_reducible repeat (first | refine blk_drewN ?_ _ | refine blk_drew ?_ | refine blk_alloc ?_ _)); exact BK249.out) hb); have n2_ := Aside0.mk (below_step (by repeat (first | (with_reducible first | exact HB.out | apply below_alloc | apply pw_below_drewN | apply below_drew1 | refine below_set ?_ GE245.out | refine below_set ?_ GE249.out) | exact HB.out)) hb); clear BK245; clear BK249; clear HB; have BK245 := n0_; have BK249 := n1_; have HB := n2_; clear n0_ n1_ n2_; (try clear hb); (try clear hb2); (try clear hk); (try clear hi); have hcz29_0 : w28.cell? ⟨gb249, 0, none⟩ = some (.int .u64 t246) := (blk_cell BK249.out 0).trans rfl; have hcz29_1 : w28.cell? ⟨gb249, 1, none⟩ = some (.int .u64 t247) := (blk_cell BK249.out 1).trans rfl; have hfz29_0 := blk_frozen BK249.out 0; have hfz29_1 := blk_frozen BK249.out 1))
                go_ret2
                exact ⟨by first | rfl | (simp [errW_none, errW_some] <;> rfl) | (simp [*, errW_none, errW_some] <;> rfl) | (simp (disch := first | assumption | omega) only [Int.tdiv_eq_ediv_of_nonneg, Int.tmod_eq_emod_of_nonneg]; rfl), by repeat (first | (with_reducible first | exact HB.out | apply below_alloc | apply pw_below_drewN | apply below_drew1 | refine below_set ?_ GE245.out | refine below_set ?_ GE249.out) | exact HB.out)⟩
              · rw [if_neg c25] at H
                have c25b0 : decide (0 < t250) = false := decide_eq_false c25
                clear c25
                simp only [Option.some.injEq, Prod.mk.injEq] at H
                obtain ⟨rfl, rfl⟩ := H
                have hnb30 := NB249_245.out
                have hnc30 := NB245_249.out
                have hcz31_0 : wc.cell? ⟨gb249, 0, none⟩ = some (.int .u64 t246) := (blk_cell BK249.out 0).trans rfl
                have hcz31_1 : wc.cell? ⟨gb249, 1, none⟩ = some (.int .u64 t247) := (blk_cell BK249.out 1).trans rfl
                have hfz31_0 := blk_frozen BK249.out 0
                have hfz31_1 := blk_frozen BK249.out 1
                go_wp2_with (first | ((with_reducible refine gate_callee (f := 39) rfl ?_); refine goesL_ (some 63) rfl rfl Try.func39 (by kernel_rfl) rfl #[.agg #[.int .u64 t246, .int .u64 t247], .agg #[.int .u64 0, .int .u64 1]] rfl (by (try simp only [List.map_toArray, List.map_cons, List.map_nil]); first | done | rfl | (simp only [List.length_drop, List.length_take]; rfl)) ?_; (with_reducible refine (customsref01_Add.calls t246 t247 0 1 t250 t251 t252 _ A24.out).mono ?_); rintro e w32 ⟨rfl, hb⟩; refine ⟨_, rfl, ?_⟩; have n0_ := Aside0.mk (blk_below (g := gb245) (o := .cells #[.int .u64 a0_0, .int .u64 a0_1] 66 (0, 0)) (by (with_reducible repeat (first | refine blk_drewN ?_ _ | refine blk_drew ?_ | refine blk_alloc ?_ _)); exact BK245.out) hb); have n1_ := Aside0.mk (blk_below (g := gb249) (o := .cells #[.int .u64 t246, .int .u64 t247] 66 (0, 0)) (by (with_reducible repeat (first | refine blk_drewN ?_ _ | refine blk_drew ?_ | refine blk_alloc ?_ _)); exact BK249.out) hb); have n2_ := Aside0.mk (below_step (by repeat (first | (with_reducible first | exact HB.out | apply below_alloc | apply pw_below_drewN | apply below_drew1 | refine below_set ?_ GE245.out | refine below_set ?_ GE249.out) | exact HB.out)) hb); clear BK245; clear BK249; clear HB; have BK245 := n0_; have BK249 := n1_; have HB := n2_; clear n0_ n1_ n2_; (try clear hb); (try clear hb2); (try clear hk); (try clear hi); have hcz33_0 : w32.cell? ⟨gb249, 0, none⟩ = some (.int .u64 t246) := (blk_cell BK249.out 0).trans rfl; have hcz33_1 : w32.cell? ⟨gb249, 1, none⟩ = some (.int .u64 t247) := (blk_cell BK249.out 1).trans rfl; have hfz33_0 := blk_frozen BK249.out 0; have hfz33_1 := blk_frozen BK249.out 1))
                go_ret2
                exact ⟨by first | rfl | (simp [errW_none, errW_some] <;> rfl) | (simp [*, errW_none, errW_some] <;> rfl) | (simp (disch := first | assumption | omega) only [Int.tdiv_eq_ediv_of_nonneg, Int.tmod_eq_emod_of_nonneg]; rfl), by repeat (first | (with_reducible first | exact HB.out | apply below_alloc | apply pw_below_drewN | apply below_drew1 | refine below_set ?_ GE245.out | refine below_set ?_ GE249.out) | exact HB.out)⟩
            · replace c23 := Bool.eq_false_iff.mpr c23
              subst c23
              have H1 : (if t246 > 0 then (some (0, 3)) else (some (t247, 0))) = some (r1, r2) := by rw [if_neg (show ¬ (false = true) by decide)] at H; exact H
              clear H
              have H := H1
              clear H1
              by_cases c34 : t246 > 0
              · rw [if_pos c34] at H
                have c34b0 : decide (0 < t246) = true := decide_eq_true c34
                clear c34
                simp only [Option.some.injEq, Prod.mk.injEq] at H
                obtain ⟨rfl, rfl⟩ := H
                have hnb35 := NB249_245.out
                have hnc35 := NB245_249.out
                have hcz36_0 : wc.cell? ⟨gb249, 0, none⟩ = some (.int .u64 t246) := (blk_cell BK249.out 0).trans rfl
                have hcz36_1 : wc.cell? ⟨gb249, 1, none⟩ = some (.int .u64 t247) := (blk_cell BK249.out 1).trans rfl
                have hfz36_0 := blk_frozen BK249.out 0
                have hfz36_1 := blk_frozen BK249.out 1
                go_wp2
                go_ret2
                exact ⟨by first | rfl | (simp [errW_none, errW_some] <;> rfl) | (simp [*, errW_none, errW_some] <;> rfl) | (simp (disch := first | assumption | omega) only [Int.tdiv_eq_ediv_of_nonneg, Int.tmod_eq_emod_of_nonneg]; rfl), by repeat (first | (with_reducible first | exact HB.out | apply below_alloc | apply pw_below_drewN | apply below_drew1 | refine below_set ?_ GE245.out | refine below_set ?_ GE249.out) | exact HB.out)⟩
              · rw [if_neg c34] at H
                have c34b0 : decide (0 < t246) = false := decide_eq_false c34
                clear c34
                simp only [Option.some.injEq, Prod.mk.injEq] at H
                obtain ⟨rfl, rfl⟩ := H
                have hnb37 := NB249_245.out
                have hnc37 := NB245_249.out
                have hcz38_0 : wc.cell? ⟨gb249, 0, none⟩ = some (.int .u64 t246) := (blk_cell BK249.out 0).trans rfl
                have hcz38_1 : wc.cell? ⟨gb249, 1, none⟩ = some (.int .u64 t247) := (blk_cell BK249.out 1).trans rfl
                have hfz38_0 := blk_frozen BK249.out 0
                have hfz38_1 := blk_frozen BK249.out 1
                go_wp2
                go_ret2
                exact ⟨by first | rfl | (simp [errW_none, errW_some] <;> rfl) | (simp [*, errW_none, errW_some] <;> rfl) | (simp (disch := first | assumption | omega) only [Int.tdiv_eq_ediv_of_nonneg, Int.tmod_eq_emod_of_nonneg]; rfl), by repeat (first | (with_reducible first | exact HB.out | apply below_alloc | apply pw_below_drewN | apply below_drew1 | refine below_set ?_ GE245.out | refine below_set ?_ GE249.out) | exact HB.out)⟩

end Go.Proofs.Ytpmdlhncfggjkaa.PX
end
section
namespace Go.Proofs.Ytpmdlhncfggjkaa.PX
open Go.RowKit Go.Proofs.YtpmdlhncfggjkaaW.PrintWords Go.Proofs.YtpmdlhncfggjkaaW.PrintLast Go.Proofs.YtpmdlhncfggjkaaW.PrintMore
attribute [local go_sem] max2_int min2_int max_two min_two max_three min_three max_four min_four   -- for this text's walks alone
set_option linter.unusedVariables false
set_option linter.unusedSimpArgs false

/-! ### customsref01_Mul: function 35 -/
def customsref01_Mul.l0 : Nat → Int → Int → Int → Int → Int → Option (Int × Int)
  | 0, _, _, _, _, _ => none
  | k + 1, x0, x1, x6, x255000, x255001 => if x6 ≥ 0 then ((customsref01_Add.f x255000 x255001 x255000 x255001).bind fun bt255 => (if 0 ≤ x6 then (if (Go.bits .and .u64 (shr .u64 x1 x6) 1) = 1 then ((customsref01_Add.f bt255.1 bt255.2.1 0 x0).bind fun bt258 => (customsref01_Mul.l0 k x0 x1 (wrap64 (x6 - 1)) bt258.1 bt258.2.1)) else (customsref01_Mul.l0 k x0 x1 (wrap64 (x6 - 1)) bt255.1 bt255.2.1)) else (none))) else (some (x255000, x255001))
def customsref01_Mul.f (k : Nat) (a0 : Int) (a1 : Int) : Option (Int × Int) := customsref01_Mul.l0 k a0 a1 63 0 0
set_option maxHeartbeats 8000000 in
set_option maxRecDepth 100000 in
theorem customsref01_Mul.calls (k : Nat) (a0 : Int) (a1 : Int) (r1 : Int) (r2 : Int) (w : World) (h : customsref01_Mul.f k a0 a1 = some (r1, r2)) :
    Calls Try.prog 35 #[.int .u64 a0, .int .u64 a1] w fun e w' => e = .returned (.agg #[.int .u64 r1, .int .u64 r2]) ∧ Below w.heap.size w w' := by
  have hu66 := Try.underlying66
  have HB := Aside0.mk (Below.refl w.heap.size w)
  have H : (customsref01_Mul.l0 k a0 a1 63 0 0) = some (r1, r2) := h
  clear h
  have H' := Aside0.mk H
  clear H
  go_enter Try.func35, Try.ntmps35
  go_wp2_with (first | ((with_reducible refine gate_dst (N := 4) rfl ?_); refine box_event ?hg (N := 4) ?hd (cs := #[.int .u64 0, .int .u64 0]) (t := 66) ?hr ?_; (case hd => rfl); (case hg => rfl); (case hr => first | (go_simp; done) | (go_simp; rfl)); intro gb253 hg w3 hbox hb; have n0_ := Aside0.mk (below_step (by repeat (first | (with_reducible first | exact HB.out | apply below_alloc | apply pw_below_drewN | apply below_drew1) | exact HB.out)) hb); have n1_ := Aside0.mk (hbox); have n2_ := Aside0.mk ((by rw [hg]; exact (below_size (by repeat (first | (with_reducible first | exact HB.out | apply below_alloc | apply pw_below_drewN | apply below_drew1) | exact HB.out))) : w.heap.size ≤ gb253)); have n3_ := Aside0.mk ((by rw [hg]; exact (below_size (by repeat (first | (with_reducible first | exact HB.out | apply below_alloc | apply pw_below_drewN | apply below_drew1) | exact HB.out))) : w.heap.size ≤ gb253)); clear HB; have HB := n0_; have BK253 := n1_; have GW253 := n2_; have GE253 := n3_; clear n0_ n1_ n2_ n3_; clear hb hbox hg) | ((with_reducible refine gate_dst (N := 5) rfl ?_); refine box_event ?hg (N := 5) ?hd (cs := #[.int .u64 0, .int .u64 0]) (t := 66) ?hr ?_; (case hd => rfl); (case hg => rfl); (case hr => first | (go_simp; done) | (go_simp; rfl)); intro gb254 hg w4 hbox hb; have n0_ := Aside0.mk (blk_below (g := gb253) (o := .cells #[.int .u64 0, .int .u64 0] 66 (0, 0)) (by (with_reducible repeat (first | refine blk_drewN ?_ _ | refine blk_drew ?_ | refine blk_alloc ?_ _)); exact BK253.out) hb); have n1_ := Aside0.mk (below_step (by repeat (first | (with_reducible first | exact HB.out | apply below_alloc | apply pw_below_drewN | apply below_drew1 | refine below_set ?_ GE253.out) | exact HB.out)) hb); have n2_ := Aside0.mk (hbox); have n3_ := Aside0.mk ((by rw [hg]; exact (below_size (by repeat (first | (with_reducible first | exact HB.out | apply below_alloc | apply pw_below_drewN | apply below_drew1 | refine below_set ?_ GE253.out) | exact HB.out))) : w.heap.size ≤ gb254)); have n4_ := Aside0.mk ((by rw [hg]; exact (below_size (by repeat (first | (with_reducible first | exact HB.out | apply below_alloc | apply pw_below_drewN | apply below_drew1 | refine below_set ?_ GE253.out) | exact HB.out))) : w.heap.size ≤ gb254)); have n5_ := Aside0.mk ((by rw [hg]; exact Nat.ne_of_lt (blk_lt (g := gb253) (o := .cells #[.int .u64 0, .int .u64 0] 66 (0, 0)) (by (with_reducible repeat (first | refine blk_drewN ?_ _ | refine blk_drew ?_ | refine blk_alloc ?_ _)); exact BK253.out)) : gb253 ≠ gb254)); have n6_ := Aside0.mk ((by rw [hg]; exact Nat.ne_of_gt (blk_lt (g := gb253) (o := .cells #[.int .u64 0, .int .u64 0] 66 (0, 0)) (by (with_reducible repeat (first | refine blk_drewN ?_ _ | refine blk_drew ?_ | refine blk_alloc ?_ _)); exact BK253.out)) : gb254 ≠ gb253)); clear BK253; clear HB; have BK253 := n0_; have HB := n1_; have BK254 := n2_; have GW254 := n3_; have GE254 := n4_; have NB253_254 := n5_; have NB254_253 := n6_; clear n0_ n1_ n2_ n3_ n4_ n5_ n6_; clear hb hbox hg; have hnb5 := NB254_253.out; have hnc5 := NB253_254.out; have hcz6_0 : w4.cell? ⟨gb254, 0, none⟩ = some (.int .u64 0) := (blk_cell BK254.out 0).trans rfl; have hcz6_1 : w4.cell? ⟨gb254, 1, none⟩ = some (.int .u64 0) := (blk_cell BK254.out 1).trans rfl; have hfz6_0 := blk_frozen BK254.out 0; have hfz6_1 := blk_frozen BK254.out 1))
  go_loopg [6] k (fun kq v6 w' => ∃ (x6_1 : Int) (x255000_1 : Int) (x255001_1 : Int), v6 = .int .i64 x6_1 ∧ Aside0 (customsref01_Mul.l0 kq a0 a1 x6_1 x255000_1 x255001_1 = some (r1, r2)) ∧ Aside0 (kq ≤ k) ∧ Aside0 (w'.heap[gb253]? = some (.cells #[.int .u64 0, .int .u64 0] 66 (0, 0))) ∧ Aside0 (w'.heap[gb254]? = some (.cells #[.int .u64 x255000_1, .int .u64 x255001_1] 66 (0, 0))) ∧ Aside0 (Below w.heap.size w w'))
  case atStart => exact ⟨(63), (0), (0), (by first | rfl | (simp; done) | (simp [*]; done)), H', ⟨Nat.le_refl _⟩, ⟨by (with_reducible repeat (first | refine blk_drewN ?_ _ | refine blk_drew ?_ | refine blk_alloc ?_ _)); refine blk_far ?_ NB253_254.out _; (with_reducible repeat (first | refine blk_drewN ?_ _ | refine blk_drew ?_ | refine blk_alloc ?_ _)); refine blk_far ?_ NB253_254.out _; (with_reducible repeat (first | refine blk_drewN ?_ _ | refine blk_drew ?_ | refine blk_alloc ?_ _)); exact BK253.out⟩, ⟨by (with_reducible repeat (first | refine blk_drewN ?_ _ | refine blk_drew ?_ | refine blk_alloc ?_ _)); refine blk_put (cs := #[.int .u64 0, .int .u64 0]) ?_ 1 _ rfl; (with_reducible repeat (first | refine blk_drewN ?_ _ | refine blk_drew ?_ | refine blk_alloc ?_ _)); refine blk_put (cs := #[.int .u64 0, .int .u64 0]) ?_ 0 _ rfl; (with_reducible repeat (first | refine blk_drewN ?_ _ | refine blk_drew ?_ | refine blk_alloc ?_ _)); exact BK254.out⟩, ⟨by repeat (first | (with_reducible first | exact HB.out | apply below_alloc | apply pw_below_drewN | apply below_drew1 | refine below_set ?_ GE253.out | refine below_set ?_ GE254.out) | exact HB.out)⟩⟩
  case round =>
    clear H'
    try clear p2
    try clear c3
    try clear c5
    try clear hcz6_0
    try clear hcz6_1
    try clear hfz6_0
    try clear hfz6_1
    obtain ⟨x6_1, x255000_1, x255001_1, rfl, HA, HK1, BK253, BK254, HB⟩ := hrel
    cases gk with
    | zero => exact absurd HA.out (by simp [customsref01_Mul.l0])
    | succ k1 =>
      have H := HA.out
      clear HA
      simp only [customsref01_Mul.l0] at H
      by_cases c7 : x6_1 ≥ 0
      · rw [if_pos c7] at H
        have c7b0 : decide (0 ≤ x6_1) = true := decide_eq_true c7
        clear c7
        replace H := Option.bind_eq_some_iff.mp H
        obtain ⟨⟨t255, t256, t257⟩, A80, H⟩ := H
        replace H : (if 0 ≤ x6_1 then (if (Go.bits .and .u64 (shr .u64 a1 x6_1) 1) = 1 then ((customsref01_Add.f t255 t256 0 a0).bind fun bt258 => (customsref01_Mul.l0 k1 a0 a1 (wrap64 (x6_1 - 1)) bt258.1 bt258.2.1)) else (customsref01_Mul.l0 k1 a0 a1 (wrap64 (x6_1 - 1)) t255 t256)) else (none)) = some (r1, r2) := H
        have A8 := Aside0.mk A80
        clear A80
        by_cases c9 : 0 ≤ x6_1
        · rw [if_pos c9] at H
          have c9b0 := eq_true c9
          have c9b1 : decide (0 ≤ x6_1) = true := decide_eq_true c9
          clear c9
          obtain ⟨ji10, hji10⟩ : ∃ j_ : Int, (shr .u64 a1 x6_1) = j_ := ⟨_, rfl⟩
          replace H : (if (Go.bits .and .u64 (ji10) 1) = 1 then ((customsref01_Add.f t255 t256 0 a0).bind fun bt258 => (customsref01_Mul.l0 k1 a0 a1 (wrap64 (x6_1 - 1)) bt258.1 bt258.2.1)) else (customsref01_Mul.l0 k1 a0 a1 (wrap64 (x6_1 - 1)) t255 t256)) = some (r1, r2) := by first | (rw [hji10] at H; exact H) | (simp only [hji10] at H ⊢; exact H)
          (try rw [hji10] at A8)
          have hji10_ : (a1 / 2 ^ min x6_1.toNat 64) = ji10 := hji10
          have hji10z : x6_1 ≤ 64 → (a1 / 2 ^ x6_1.toNat) = ji10 := shr_small hji10
          by_cases c11 : (Go.bits .and .u64 (ji10) 1) = 1
          · rw [if_pos c11] at H
            have c11b0 : ((Go.bits .and .u64 (ji10) 1) == 1) = true := beq_iff_eq.mpr c11
            have c11b1 : ((Go.bits .and .u64 (ji10) 1) != 1) = false := bne_eq_false_iff_eq.mpr c11
            clear c11
            replace H := Option.bind_eq_some_iff.mp H
            obtain ⟨⟨t258, t259, t260⟩, A120, H⟩ := H
            replace H : (customsref01_Mul.l0 k1 a0 a1 (wrap64 (x6_1 - 1)) t258 t259) = some (r1, r2) := H
            have A12 := Aside0.mk A120
            clear A120
            have H' := Aside0.mk H
            clear H
            have hnb13 := NB254_253.out
            have hnc13 := NB253_254.out
            have hcz14_0 : wr.cell? ⟨gb254, 0, none⟩ = some (.int .u64 x255000_1) := (blk_cell BK254.out 0).trans rfl
            have hcz14_1 : wr.cell? ⟨gb254, 1, none⟩ = some (.int .u64 x255001_1) := (blk_cell BK254.out 1).trans rfl
            have hfz14_0 := blk_frozen BK254.out 0
            have hfz14_1 := blk_frozen BK254.out 1
            go_wp2_with (first | ((with_reducible refine gate_callee (f := 39) rfl ?_); refine goesL_ (some 15) rfl rfl Try.func39 (by kernel_rfl) rfl #[.agg #[.int .u64 x255000_1, .int .u64 x255001_1], .agg #[.int .u64 x255000_1, .int .u64 x255001_1]] rfl (by (try simp only [List.map_toArray, List.map_cons, List.map_nil]); first | done | rfl | (simp only [List.length_drop, List.length_take]; rfl)) ?_; (with_reducible refine (customsref01_Add.calls x255000_1 x255001_1 x255000_1 x255001_1 t255 t256 t257 _ A8.out).mono ?_); rintro e w15 ⟨rfl, hb⟩; refine ⟨_, rfl, ?_⟩; have n0_ := Aside0.mk (blk_below (g := gb253) (o := .cells #[.int .u64 0, .int .u64 0] 66 (0, 0)) (by (with_reducible repeat (first | refine blk_drewN ?_ _ | refine blk_drew ?_ | refine blk_alloc ?_ _)); exact BK253.out) hb); have n1_ := Aside0.mk (blk_below (g := gb254) (o := .cells #[.int .u64 x255000_1, .int .u64 x255001_1] 66 (0, 0)) (by (with_reducible repeat (first | refine blk_drewN ?_ _ | refine blk_drew ?_ | refine blk_alloc ?_ _)); exact BK254.out) hb); have n2_ := Aside0.mk (below_step (by repeat (first | (with_reducible first | exact HB.out | apply below_alloc | apply pw_below_drewN | apply below_drew1 | refine below_set ?_ GE253.out | refine below_set ?_ GE254.out) | exact HB.out)) hb); clear BK253; clear BK254; clear HB; have BK253 := n0_; have BK254 := n1_; have HB := n2_; clear n0_ n1_ n2_; (try clear hb); (try clear hb2); (try clear hk); (try clear hi); have hcz16_0 : w15.cell? ⟨gb254, 0, none⟩ = some (.int .u64 x255000_1) := (blk_cell BK254.out 0).trans rfl; have hcz16_1 : w15.cell? ⟨gb254, 1, none⟩ = some (.int .u64 x255001_1) := (blk_cell BK254.out 1).trans rfl; have hfz16_0 := blk_frozen BK254.out 0; have hfz16_1 := blk_frozen BK254.out 1) | ((with_reducible refine gate_callee (f := 39) rfl ?_); refine goesL_ (some 27) rfl rfl Try.func39 (by kernel_rfl) rfl #[.agg #[.int .u64 t255, .int .u64 t256], .agg #[.int .u64 0, .int .u64 a0]] rfl (by (try simp only [List.map_toArray, List.map_cons, List.map_nil]); first | done | rfl | (simp only [List.length_drop, List.length_take]; rfl)) ?_; (with_reducible refine (customsref01_Add.calls t255 t256 0 a0 t258 t259 t260 _ A12.out).mono ?_); rintro e w17 ⟨rfl, hb⟩; refine ⟨_, rfl, ?_⟩; have n0_ := Aside0.mk (blk_below (g := gb253) (o := .cells #[.int .u64 0, .int .u64 0] 66 (0, 0)) (by (with_reducible repeat (first | refine blk_drewN ?_ _ | refine blk_drew ?_ | refine blk_alloc ?_ _)); refine blk_far ?_ NB253_254.out _; (with_reducible repeat (first | refine blk_drewN ?_ _ | refine blk_drew ?_ | refine blk_alloc ?_ _)); refine blk_far ?_ NB253_254.out _; (with_reducible repeat (first | refine blk_drewN ?_ _ | refine blk_drew ?_ | refine blk_alloc ?_ _)); exact BK253.out) hb); have n1_ := Aside0.mk (blk_below (g := gb254) (o := .cells #[.int .u64 t255, .int .u64 t256] 66 (0, 0)) (by (with_reducible repeat (first | refine blk_drewN ?_ _ | refine blk_drew ?_ | refine blk_alloc ?_ _)); refine blk_put (cs := #[.int .u64 t255, .int .u64 x255001_1]) ?_ 1 _ rfl; (with_reducible repeat (first | refine blk_drewN ?_ _ | refine blk_drew ?_ | refine blk_alloc ?_ _)); refine blk_put (cs := #[.int .u64 x255000_1, .int .u64 x255001_1]) ?_ 0 _ rfl; (with_reducible repeat (first | refine blk_drewN ?_ _ | refine blk_drew ?_ | refine blk_alloc ?_ _)); exact BK254.out) hb); have n2_ := Aside0.mk (below_step (by repeat (first | (with_reducible first | exact HB.out | apply below_alloc | apply pw_below_drewN | apply below_drew1 | refine below_set ?_ GE253.out | refine below_set ?_ GE254.out) | exact HB.out)) hb); clear BK253; clear BK254; clear HB; have BK253 := n0_; have BK254 := n1_; have HB := n2_; clear n0_ n1_ n2_; (try clear hb); (try clear hb2); (try clear hk); (try clear hi); have hcz18_0 : w17.cell? ⟨gb254, 0, none⟩ = some (.int .u64 t255) := (blk_cell BK254.out 0).trans rfl; have hcz18_1 : w17.cell? ⟨gb254, 1, none⟩ = some (.int .u64 t256) := (blk_cell BK254.out 1).trans rfl; have hfz18_0 := blk_frozen BK254.out 0; have hfz18_1 := blk_frozen BK254.out 1))
            go_roundg k1
            case measure => have := HK1.out; omega
            case rel => exact ⟨(wrap64 (x6_1 - 1)), (t258), (t259), (by first | rfl | (simp; done) | (simp [*]; done)), H', ⟨by have := HK1.out; omega⟩, ⟨by (with_reducible repeat (first | refine blk_drewN ?_ _ | refine blk_drew ?_ | refine blk_alloc ?_ _)); refine blk_far ?_ NB253_254.out _; (with_reducible repeat (first | refine blk_drewN ?_ _ | refine blk_drew ?_ | refine blk_alloc ?_ _)); refine blk_far ?_ NB253_254.out _; (with_reducible repeat (first | refine blk_drewN ?_ _ | refine blk_drew ?_ | refine blk_alloc ?_ _)); exact BK253.out⟩, ⟨by (with_reducible repeat (first | refine blk_drewN ?_ _ | refine blk_drew ?_ | refine blk_alloc ?_ _)); refine blk_put (cs := #[.int .u64 t258, .int .u64 t256]) ?_ 1 _ rfl; (with_reducible repeat (first | refine blk_drewN ?_ _ | refine blk_drew ?_ | refine blk_alloc ?_ _)); refine blk_put (cs := #[.int .u64 t255, .int .u64 t256]) ?_ 0 _ rfl; (with_reducible repeat (first | refine blk_drewN ?_ _ | refine blk_drew ?_ | refine blk_alloc ?_ _)); exact BK254.out⟩, ⟨by repeat (first | (with_reducible first | exact HB.out | apply below_alloc | apply pw_below_drewN | apply below_drew1 | refine below_set ?_ GE253.out | refine below_set ?_ GE254.out) | exact HB.out)⟩⟩
          · rw [if_neg c11] at H
            have c11b0 : ((Go.bits .and .u64 (ji10) 1) == 1) = false := beq_eq_false_iff_ne.mpr c11
            have c11b1 : ((Go.bits .and .u64 (ji10) 1) != 1) = true := bne_iff_ne.mpr c11
            have H' := Aside0.mk H
            clear H
            have hnb19 := NB254_253.out
            have hnc19 := NB253_254.out
            have hcz20_0 : wr.cell? ⟨gb254, 0, none⟩ = some (.int .u64 x255000_1) := (blk_cell BK254.out 0).trans rfl
            have hcz20_1 : wr.cell? ⟨gb254, 1, none⟩ = some (.int .u64 x255001_1) := (blk_cell BK254.out 1).trans rfl
            have hfz20_0 := blk_frozen BK254.out 0
            have hfz20_1 := blk_frozen BK254.out 1
            go_wp2_with (first | ((with_reducible refine gate_callee (f := 39) rfl ?_); refine goesL_ (some 15) rfl rfl Try.func39 (by kernel_rfl) rfl #[.agg #[.int .u64 x255000_1, .int .u64 x255001_1], .agg #[.int .u64 x255000_1, .int .u64 x255001_1]] rfl (by (try simp only [List.map_toArray, List.map_cons, List.map_nil]); first | done | rfl | (simp only [List.length_drop, List.length_take]; rfl)) ?_; (with_reducible refine (customsref01_Add.calls x255000_1 x255001_1 x255000_1 x255001_1 t255 t256 t257 _ A8.out).mono ?_); rintro e w21 ⟨rfl, hb⟩; refine ⟨_, rfl, ?_⟩; have n0_ := Aside0.mk (blk_below (g := gb253) (o := .cells #[.int .u64 0, .int .u64 0] 66 (0, 0)) (by (with_reducible repeat (first | refine blk_drewN ?_ _ | refine blk_drew ?_ | refine blk_alloc ?_ _)); exact BK253.out) hb); have n1_ := Aside0.mk (blk_below (g := gb254) (o := .cells #[.int .u64 x255000_1, .int .u64 x255001_1] 66 (0, 0)) (by (with_reducible repeat (first | refine blk_drewN ?_ _ | refine blk_drew ?_ | refine blk_alloc ?_ _)); exact BK254.out) hb); have n2_ := Aside0.mk (below_step (by repeat (first | (with_reducible first | exact HB.out | apply below_alloc | apply pw_below_drewN | apply below_drew1 | refine below_set ?_ GE253.out | refine below_set ?_ GE254.out) | exact HB.out)) hb); clear BK253; clear BK254; clear HB; have BK253 := n0_; have BK254 := n1_; have HB := n2_; clear n0_ n1_ n2_; (try clear hb); (try clear hb2); (try clear hk); (try clear hi); have hcz22_0 : w21.cell? ⟨gb254, 0, none⟩ = some (.int .u64 x255000_1) := (blk_cell BK254.out 0).trans rfl; have hcz22_1 : w21.cell? ⟨gb254, 1, none⟩ = some (.int .u64 x255001_1) := (blk_cell BK254.out 1).trans rfl; have hfz22_0 := blk_frozen BK254.out 0; have hfz22_1 := blk_frozen BK254.out 1))
            go_roundg k1
            case measure => have := HK1.out; omega
            case rel => exact ⟨(wrap64 (x6_1 - 1)), (t255), (t256), (by first | rfl | (simp; done) | (simp [*]; done)), H', ⟨by have := HK1.out; omega⟩, ⟨by (with_reducible repeat (first | refine blk_drewN ?_ _ | refine blk_drew ?_ | refine blk_alloc ?_ _)); refine blk_far ?_ NB253_254.out _; (with_reducible repeat (first | refine blk_drewN ?_ _ | refine blk_drew ?_ | refine blk_alloc ?_ _)); refine blk_far ?_ NB253_254.out _; (with_reducible repeat (first | refine blk_drewN ?_ _ | refine blk_drew ?_ | refine blk_alloc ?_ _)); exact BK253.out⟩, ⟨by (with_reducible repeat (first | refine blk_drewN ?_ _ | refine blk_drew ?_ | refine blk_alloc ?_ _)); refine blk_put (cs := #[.int .u64 t255, .int .u64 x255001_1]) ?_ 1 _ rfl; (with_reducible repeat (first | refine blk_drewN ?_ _ | refine blk_drew ?_ | refine blk_alloc ?_ _)); refine blk_put (cs := #[.int .u64 x255000_1, .int .u64 x255001_1]) ?_ 0 _ rfl; (with_reducible repeat (first | refine blk_drewN ?_ _ | refine blk_drew ?_ | refine blk_alloc ?_ _)); exact BK254.out⟩, ⟨by repeat (first | (with_reducible first | exact HB.out | apply below_alloc | apply pw_below_drewN | apply below_drew1 | refine below_set ?_ GE253.out | refine below_set ?_ GE254.out) | exact HB.out)⟩⟩
        · rw [if_neg c9] at H
          exact absurd H (by simp)
      · rw [if_neg c7] at H
        have c7b0 : decide (0 ≤ x6_1) = false := decide_eq_false c7
        clear c7
        simp only [Option.some.injEq, Prod.mk.injEq] at H
        obtain ⟨rfl, rfl⟩ := H
        have hnb23 := NB254_253.out
        have hnc23 := NB253_254.out
        have hcz24_0 : wr.cell? ⟨gb254, 0, none⟩ = some (.int .u64 x255000_1) := (blk_cell BK254.out 0).trans rfl
        have hcz24_1 : wr.cell? ⟨gb254, 1, none⟩ = some (.int .u64 x255001_1) := (blk_cell BK254.out 1).trans rfl
        have hfz24_0 := blk_frozen BK254.out 0
        have hfz24_1 := blk_frozen BK254.out 1
        have hcz25_0 : wr.cell? ⟨gb253, 0, none⟩ = some (.int .u64 0) := (blk_cell BK253.out 0).trans rfl
        have hcz25_1 : wr.cell? ⟨gb253, 1, none⟩ = some (.int .u64 0) := (blk_cell BK253.out 1).trans rfl
        have hfz25_0 := blk_frozen BK253.out 0
        have hfz25_1 := blk_frozen BK253.out 1
        go_wp2
        refine bodyPost_ret (results_cell_row rfl _ _ gb253 66 #[.int .u64 x255000_1, .int .u64 x255001_1] (0, 0) _ rfl (by (with_reducible repeat (first | refine blk_drewN ?_ _ | refine blk_drew ?_ | refine blk_alloc ?_ _)); refine blk_put (cs := #[.int .u64 x255000_1, .int .u64 0]) ?_ 1 _ rfl; (with_reducible repeat (first | refine blk_drewN ?_ _ | refine blk_drew ?_ | refine blk_alloc ?_ _)); refine blk_put (cs := #[.int .u64 0, .int .u64 0]) ?_ 0 _ rfl; (with_reducible repeat (first | refine blk_drewN ?_ _ | refine blk_drew ?_ | refine blk_alloc ?_ _)); exact BK253.out) Try.underlying66 rfl (by kernel_rfl)) rfl ?_
        exact ⟨by first | rfl | (simp [errW_none, errW_some] <;> rfl) | (simp [*, errW_none, errW_some] <;> rfl) | (simp (disch := first | assumption | omega) only [Int.tdiv_eq_ediv_of_nonneg, Int.tmod_eq_emod_of_nonneg]; rfl), by repeat (first | (with_reducible first | exact HB.out | apply below_alloc | apply pw_below_drewN | apply below_drew1 | refine below_set ?_ GE253.out | refine below_set ?_ GE254.out) | exact HB.out)⟩

end Go.Proofs.Ytpmdlhncfggjkaa.PX
end
section
namespace Go.Proofs.Ytpmdlhncfggjkaa.PX
open Go.RowKit Go.Proofs.YtpmdlhncfggjkaaW.PrintWords Go.Proofs.YtpmdlhncfggjkaaW.PrintLast Go.Proofs.YtpmdlhncfggjkaaW.PrintMore
set_option linter.unusedVariables false
set_option linter.unusedSimpArgs false

theorem mul_bound {a b : Int} (ha : U64 a) (hb : U64 b) : a * b ≤ 18446744073709551615 * 18446744073709551615 := by
  have := ha.2; have := hb.2
  exact Int.mul_le_mul (by omega) (by omega) hb.1 (by omega)
/- one bit of the reference's division -/
end Go.Proofs.Ytpmdlhncfggjkaa.PX
end
section
namespace Go.Proofs.Ytpmdlhncfggjkaa.PX
open Go.RowKit Go.Proofs.YtpmdlhncfggjkaaW.PrintWords Go.Proofs.YtpmdlhncfggjkaaW.PrintLast Go.Proofs.YtpmdlhncfggjkaaW.PrintMore
attribute [local go_sem] max2_int min2_int max_two min_two max_three min_three max_four min_four   -- for this text's walks alone
set_option linter.unusedVariables false
set_option linter.unusedSimpArgs false

/-! ### customsref01_MulDiv: function 31 -/
def customsref01_MulDiv.f (k : Nat) (a0 : Int) (a1 : Int) (a2 : Int) (a3 : Int) : Option (Int × Int) := (customsref01_Mul.f k a0 a1).bind fun bt261 => ((customsref01_Div.f k bt261.1 bt261.2 a2 a3).bind fun bt263 => (some (bt263.1, bt263.2)))
set_option maxHeartbeats 8000000 in
set_option maxRecDepth 100000 in
theorem customsref01_MulDiv.calls (k : Nat) (a0 : Int) (a1 : Int) (a2 : Int) (a3 : Int) (r1 : Int) (r2 : Int) (w : World) (h : customsref01_MulDiv.f k a0 a1 a2 a3 = some (r1, r2)) :
    Calls Try.prog 31 #[.int .u64 a0, .int .u64 a1, .int .u64 a2, .int .i64 a3] w fun e w' => e = .returned (.tuple #[.int .u64 r1, .int .i64 r2]) ∧ Below w.heap.size w w' := by
  have HB := Aside0.mk (Below.refl w.heap.size w)
  have H : ((customsref01_Mul.f k a0 a1).bind fun bt261 => ((customsref01_Div.f k bt261.1 bt261.2 a2 a3).bind fun bt263 => (some (bt263.1, bt263.2)))) = some (r1, r2) := h
  clear h
  replace H := Option.bind_eq_some_iff.mp H
  obtain ⟨⟨t261, t262⟩, A50, H⟩ := H
  replace H : ((customsref01_Div.f k t261 t262 a2 a3).bind fun bt263 => (some (bt263.1, bt263.2))) = some (r1, r2) := H
  have A5 := Aside0.mk A50
  clear A50
  replace H := Option.bind_eq_some_iff.mp H
  obtain ⟨⟨t263, t264⟩, A60, H⟩ := H
  replace H : (some (t263, t264)) = some (r1, r2) := H
  have A6 := Aside0.mk A60
  clear A60
  simp only [Option.some.injEq, Prod.mk.injEq] at H
  obtain ⟨rfl, rfl⟩ := H
  go_enter Try.func31, Try.ntmps31
  go_wp2_with (first | ((with_reducible refine gate_callee (f := 35) rfl ?_); refine goesL_ (some 12) rfl rfl Try.func35 (by kernel_rfl) rfl #[.int .u64 a0, .int .u64 a1] rfl (by (try simp only [List.map_toArray, List.map_cons, List.map_nil]); first | done | rfl | (simp only [List.length_drop, List.length_take]; rfl)) ?_; (with_reducible refine (customsref01_Mul.calls k a0 a1 t261 t262 _ A5.out).mono ?_); rintro e w7 ⟨rfl, hb⟩; refine ⟨_, rfl, ?_⟩; have n0_ := Aside0.mk (below_step (by repeat (first | (with_reducible first | exact HB.out | apply below_alloc | apply pw_below_drewN | apply below_drew1) | exact HB.out)) hb); clear HB; have HB := n0_; clear n0_; (try clear hb); (try clear hb2); (try clear hk); (try clear hi)) | ((with_reducible refine gate_callee (f := 34) rfl ?_); refine goesL_ (some 15) rfl rfl Try.func34 (by kernel_rfl) rfl #[.agg #[.int .u64 t261, .int .u64 t262], .int .u64 a2, .int .i64 a3] rfl (by (try simp only [List.map_toArray, List.map_cons, List.map_nil]); first | done | rfl | (simp only [List.length_drop, List.length_take]; rfl)) ?_; (with_reducible refine (customsref01_Div.calls k t261 t262 a2 a3 t263 t264 _ A6.out).mono ?_); rintro e w8 ⟨rfl, hb⟩; refine ⟨_, rfl, ?_⟩; have n0_ := Aside0.mk (below_step (by repeat (first | (with_reducible first | exact HB.out | apply below_alloc | apply pw_below_drewN | apply below_drew1) | exact HB.out)) hb); clear HB; have HB := n0_; clear n0_; (try clear hb); (try clear hb2); (try clear hk); (try clear hi)))
  go_ret2
  exact ⟨by first | rfl | (simp [errW_none, errW_some] <;> rfl) | (simp [*, errW_none, errW_some] <;> rfl) | (simp (disch := first | assumption | omega) only [Int.tdiv_eq_ediv_of_nonneg, Int.tmod_eq_emod_of_nonneg]; rfl), by repeat (first | (with_reducible first | exact HB.out | apply below_alloc | apply pw_below_drewN | apply below_drew1) | exact HB.out)⟩

end Go.Proofs.Ytpmdlhncfggjkaa.PX
end
section
namespace Go.Proofs.Ytpmdlhncfggjkaa.PX
open Go.RowKit Go.Proofs.YtpmdlhncfggjkaaW.PrintWords Go.Proofs.YtpmdlhncfggjkaaW.PrintLast Go.Proofs.YtpmdlhncfggjkaaW.PrintMore
set_option linter.unusedVariables false
set_option linter.unusedSimpArgs false

/- is the quotient q with the remainder r of a division by c rounded up in the mode m -/
def rup (m q r c : Int) : Bool := if m = 1 then decide (0 < r) else if m = 2 then decide (c ≤ 2 * r) else if m = 3 then decide (c < 2 * r ∨ c = 2 * r ∧ q % 2 = 1) else false
def rdiv (W c m : Int) : Int := W / c + (if rup m (W / c) (W % c) c = true then 1 else 0)
/- P1.2: the rounded quotient, and the error -/
def divS (W c m : Int) : Int × Int := if c = 0 ∨ m < 0 ∨ 3 < m then (0, 2) else if 18446744073709551616 ≤ rdiv W c m then (0, 3) else (rdiv W c m, 0)
theorem order_is (a b : Int) : exact_order.f a b = some (if a < b then -1 else if b < a then 1 else 0) := by
  unfold exact_order.f
  by_cases c : a < b
  · rw [if_pos c, if_pos c]
  · rw [if_neg c, if_neg c]
    by_cases d : a > b
    · rw [if_pos d, if_pos d]
    · rw [if_neg d, if_neg d]
theorem above_is (q r c m : Int) (hq : 0 ≤ q) (hr0 : 0 ≤ r) (hr1 : r < c) (hc : c < 18446744073709551616) : exact_above.f q r c m = some (rup m q r c) := by
  unfold exact_above.f rup
  rw [order_is, w64_in (by omega) (by omega)]
  simp only [Option.bind_some]
  by_cases c1 : m = 1
  · rw [if_pos c1, if_pos c1]
  · rw [if_neg c1, if_neg c1]
    by_cases c2 : m = 2
    · rw [if_pos c2, if_pos c2]
      by_cases d1 : r < c - r
      · rw [if_pos d1, decide_eq_false (by omega), decide_eq_false (by omega)]
      · rw [if_neg d1]
        by_cases d2 : c - r < r
        · rw [if_pos d2, decide_eq_true (by omega), decide_eq_true (by omega)]
        · rw [if_neg d2, decide_eq_true (by omega), decide_eq_true (by omega)]
    · rw [if_neg c2, if_neg c2]
      by_cases c3 : m = 3
      · rw [if_pos c3, if_pos c3, Int.tmod_eq_emod_of_nonneg hq]
        by_cases d1 : r < c - r
        · rw [if_pos d1, if_neg (by decide), if_neg (by decide), decide_eq_false (by omega)]
        · rw [if_neg d1]
          by_cases d2 : c - r < r
          · rw [if_pos d2, if_pos (by decide), decide_eq_true (by omega)]
          · rw [if_neg d2, if_neg (by decide), if_pos rfl]
            refine congrArg some ?_
            rw [Bool.eq_iff_iff]; simp only [beq_iff_eq, decide_eq_true_eq]; omega
      · rw [if_neg c3, if_neg c3]
theorem rdiv_big {W c m hi : Int} (hc : 0 < c) (h : c ≤ hi) (hW : hi * 18446744073709551616 ≤ W) : 18446744073709551616 ≤ rdiv W c m := by
  have : 18446744073709551616 ≤ W / c := Int.le_ediv_of_mul_le hc (by have := Int.mul_le_mul_of_nonneg_left h (show (0 : Int) ≤ 18446744073709551616 by omega); omega)
  unfold rdiv; split <;> omega
theorem exactDiv_ev (hi lo c m : Int) (hh : U64 hi) (hl : U64 lo) (hc : U64 c) : Ev (fun k => exact_Div.f k hi lo c m) (divS (hi * 18446744073709551616 + lo) c m) := by
  have hc1 := hc.2
  by_cases hb : c = 0 ∨ m < 0 ∨ 3 < m
  · have e : divS (hi * 18446744073709551616 + lo) c m = (0, 2) := by unfold divS; rw [if_pos hb]
    rw [e]
    refine Ev.congr (f := fun k => exact_Div.j0 k c m true hi lo) (fun k => ?_) (Ev.step (fun k => ?_) (Ev.now _))
    · unfold exact_Div.f
      by_cases c1 : c = 0
      · rw [if_pos c1]
      · rw [if_neg c1]
        by_cases c2 : m < 0
        · rw [if_pos c2]
        · rw [if_neg c2, decide_eq_true (by omega)]
    · simp only [exact_Div.j0]; rfl
  · have hc0 : 0 < c := by have := hc.1; omega
    have e0 : ∀ k, exact_Div.f k hi lo c m = exact_Div.j0 k c m false hi lo := fun k => by
      unfold exact_Div.f
      rw [if_neg (by omega), if_neg (by omega), decide_eq_false (by omega)]
    refine Ev.congr e0 ?_
    unfold divS
    rw [if_neg hb]
    by_cases c1 : hi ≥ c
    · rw [if_pos (rdiv_big hc0 c1 (by have := hl.1; omega))]
      refine Ev.step (fun k => ?_) (Ev.now _)
      simp only [exact_Div.j0]
      rw [if_neg (by decide), if_pos c1]
    · have hd := div64_ev hi lo c hc0 hc1 hh.1 (by omega) hl
      have hW0 : 0 ≤ hi * 18446744073709551616 + lo := by have := hh.1; have := hl.1; omega
      have q0 := Int.ediv_nonneg hW0 (show 0 ≤ c by omega)
      have q1 : (hi * 18446744073709551616 + lo) / c < 18446744073709551616 := by
        refine Int.ediv_lt_of_lt_mul hc0 ?_
        have : (hi + 1) * 18446744073709551616 ≤ c * 18446744073709551616 := Int.mul_le_mul_of_nonneg_right (by omega) (by omega)
        have := hl.2; omega
      have r0 := Int.emod_nonneg (hi * 18446744073709551616 + lo) (show c ≠ 0 by omega)
      have r1 := Int.emod_lt_of_pos (hi * 18446744073709551616 + lo) hc0
      unfold rdiv
      generalize hq : (hi * 18446744073709551616 + lo) / c = q at *
      generalize hr : (hi * 18446744073709551616 + lo) % c = r at *
      refine Ev.up ?_
      simp only [exact_Div.j0, if_neg c1, Bool.false_eq_true, if_false]
      refine Ev.bind hd (Ev.cst ?_)
      try simp only []
      rw [above_is q r c m q0 r0 r1 hc1]
      simp only [Option.bind_some]
      cases hu : rup m q r c
      · simp only [Bool.false_eq_true, if_false, Int.add_zero]
        rw [if_neg (by omega)]
      · simp only [if_true, IntKind.wrap_u64]
        by_cases cz : (q + 1) % 18446744073709551616 = 0
        · rw [if_pos cz, if_pos (by omega)]
        · rw [if_neg cz, if_neg (by omega), show (q + 1) % 18446744073709551616 = q + 1 by omega]
theorem mul64_is (a b : Int) (ha : U64 a) (hb : U64 b) : bits_Mul64.f a b = some (a * b / 18446744073709551616, a * b % 18446744073709551616) := by
  obtain ⟨ha0, ha1⟩ := ha
  obtain ⟨hb0, hb1⟩ := hb
  unfold bits_Mul64.f
  rw [and32 ha0 ha1, and32 hb0 hb1]
  have ea : a = a / 4294967296 * 4294967296 + a % 4294967296 := by omega
  have eb : b = b / 4294967296 * 4294967296 + b % 4294967296 := by omega
  have hx1 : 0 ≤ a / 4294967296 ∧ a / 4294967296 ≤ 4294967295 := by omega
  have hx0 : 0 ≤ a % 4294967296 ∧ a % 4294967296 ≤ 4294967295 := by omega
  have hy1 : 0 ≤ b / 4294967296 ∧ b / 4294967296 ≤ 4294967295 := by omega
  have hy0 : 0 ≤ b % 4294967296 ∧ b % 4294967296 ≤ 4294967295 := by omega
  have hab : a * b = a / 4294967296 * (b / 4294967296) * 18446744073709551616 + (a / 4294967296 * (b % 4294967296) + a % 4294967296 * (b / 4294967296)) * 4294967296 + a % 4294967296 * (b % 4294967296) := by
    have : a * b = (a / 4294967296 * 4294967296 + a % 4294967296) * (b / 4294967296 * 4294967296 + b % 4294967296) := by rw [← ea, ← eb]
    rw [this, Int.add_mul, Int.mul_add, Int.mul_add]
    have e1 : a / 4294967296 * 4294967296 * (b / 4294967296 * 4294967296) = a / 4294967296 * (b / 4294967296) * 18446744073709551616 := by
      rw [Int.mul_assoc, Int.mul_left_comm 4294967296, Int.mul_assoc]; rfl
    have e2 : a / 4294967296 * 4294967296 * (b % 4294967296) = a / 4294967296 * (b % 4294967296) * 4294967296 := by
      rw [Int.mul_right_comm]
    have e3 : a % 4294967296 * (b / 4294967296 * 4294967296) = a % 4294967296 * (b / 4294967296) * 4294967296 := by
      rw [Int.mul_assoc]
    rw [e1, e2, e3]; omega
  have b11 := Int.mul_nonneg hx1.1 hy1.1
  have b10 := Int.mul_nonneg hx1.1 hy0.1
  have b01 := Int.mul_nonneg hx0.1 hy1.1
  have b00 := Int.mul_nonneg hx0.1 hy0.1
  have c11 := Int.mul_le_mul hx1.2 hy1.2 hy1.1 (by decide)
  have c10 := Int.mul_le_mul hx1.2 hy0.2 hy0.1 (by decide)
  have c01 := Int.mul_le_mul hx0.2 hy1.2 hy1.1 (by decide)
  have c00 := Int.mul_le_mul hx0.2 hy0.2 hy0.1 (by decide)
  rw [hab]
  generalize a / 4294967296 * (b / 4294967296) = p11 at *
  generalize a / 4294967296 * (b % 4294967296) = p10 at *
  generalize a % 4294967296 * (b / 4294967296) = p01 at *
  generalize a % 4294967296 * (b % 4294967296) = p00 at *
  rw [w64_in (x := p00) b00 (by omega), w64_in (x := p10) b10 (by omega), w64_in (x := p01) b01 (by omega), w64_in (x := p11) b11 (by omega)]
  rw [w64_in (x := p10 + p00 / 4294967296) (by omega) (by omega), and32 (by omega) (by omega)]
  rw [w64_in (x := (p10 + p00 / 4294967296) % 4294967296 + p01) (by omega) (by omega)]
  rw [w64_in (x := p11 + (p10 + p00 / 4294967296) / 4294967296) (by omega) (by omega)]
  rw [w64_in (x := p11 + (p10 + p00 / 4294967296) / 4294967296 + ((p10 + p00 / 4294967296) % 4294967296 + p01) / 4294967296) (by omega) (by omega), IntKind.wrap_u64]
  exact congrArg some (Prod.ext (by simp only []; omega) rfl)
theorem exactMul_is (a b : Int) (ha : U64 a) (hb : U64 b) : exact_Mul.f a b = some (a * b / 18446744073709551616, a * b % 18446744073709551616) := by
  unfold exact_Mul.f; rw [mul64_is a b ha hb]; rfl
theorem wide_u64 {W : Int} (h0 : 0 ≤ W) (h1 : W < 340282366920938463463374607431768211456) : U64 (W / 18446744073709551616) ∧ U64 (W % 18446744073709551616) ∧ W / 18446744073709551616 * 18446744073709551616 + W % 18446744073709551616 = W := by
  unfold U64; omega
theorem prod_wide {a b : Int} (ha : U64 a) (hb : U64 b) : 0 ≤ a * b ∧ a * b < 340282366920938463463374607431768211456 :=
  ⟨Int.mul_nonneg ha.1 hb.1, by have := mul_bound ha hb; omega⟩
theorem exactMulDiv_ev (a b c m : Int) (ha : U64 a) (hb : U64 b) (hc : U64 c) : Ev (fun k => exact_MulDiv.f k a b c m) (divS (a * b) c m) := by
  unfold exact_MulDiv.f
  obtain ⟨h0, h1⟩ := prod_wide ha hb
  obtain ⟨u1, u2, e⟩ := wide_u64 h0 h1
  rw [exactMul_is a b ha hb]
  simp only [Option.bind_some]
  have := exactDiv_ev _ _ c m u1 u2 hc
  rw [e] at this
  exact Ev.bind this (Ev.cst rfl)
end Go.Proofs.Ytpmdlhncfggjkaa.PX
end
section
namespace Go.Proofs.Ytpmdlhncfggjkaa.PX
open Go.RowKit Go.Proofs.YtpmdlhncfggjkaaW.PrintWords Go.Proofs.YtpmdlhncfggjkaaW.PrintLast Go.Proofs.YtpmdlhncfggjkaaW.PrintMore
attribute [local go_sem] max2_int min2_int max_two min_two max_three min_three max_four min_four   -- for this text's walks alone
set_option linter.unusedVariables false
set_option linter.unusedSimpArgs false

/-! ### customsref04_At: function 17 -/
def customsref04_At.l0 : Nat → List (S25) → ByteArray → Int → Int → Int → Option (Int × Int)
  | 0, _, _, _, _, _ => none
  | k + 1, x0, x1, x2, x9, x10 => if x10 < (x0.length : Int) then (if 0 ≤ x10 then (if ((rd_T25 x0 x10).f0).toList = x1.toList then (if ((rd_T25 x0 x10).f1) ≤ x2 then (customsref04_At.l0 k x0 x1 x2 ((rd_T25 x0 x10).f2) (wrap64 (x10 + 1))) else (customsref04_At.l0 k x0 x1 x2 x9 (wrap64 (x10 + 1)))) else (customsref04_At.l0 k x0 x1 x2 x9 (wrap64 (x10 + 1)))) else (none)) else (if x9 = 0 then (some (0, 6)) else (some (x9, 0)))
def customsref04_At.f (k : Nat) (l0 : List (S25)) (a1 : ByteArray) (a2 : Int) : Option (Int × Int) := (customsref04_Table.f k l0).bind fun t203 => (if t203 = 0 then ((customsref04_Day.f a2).bind fun t204 => (if t204 = true then (if a1.toList = ([69, 85, 82] : List UInt8) then (some (1000000, 0)) else (customsref04_At.l0 k l0 a1 a2 0 0)) else (some (0, 2)))) else (some (0, t203)))
set_option maxHeartbeats 8000000 in
set_option maxRecDepth 100000 in
theorem customsref04_At.calls (k : Nat) (A0 : Option Addr) (c0 : Nat) (l0 : List (S25)) (a1 : ByteArray) (a2 : Int) (r1 : Int) (r2 : Int) (w : World) (hr0 : Kd.C k25 w A0 l0.length l0) (hc0 : l0.length ≤ c0) (h : customsref04_At.f k l0 a1 a2 = some (r1, r2)) :
    Calls Try.prog 17 #[.slice A0 l0.length c0, .string a1, .int .i64 a2] w fun e w' => e = .returned (.tuple #[.int .i64 r1, .int .i64 r2]) ∧ Below w.heap.size w w' := by
  have HR0 := Aside0.mk hr0
  have HC0 := Aside0.mk hc0
  clear hr0 hc0
  have HB := Aside0.mk (Below.refl w.heap.size w)
  have H : ((customsref04_Table.f k l0).bind fun t203 => (if t203 = 0 then ((customsref04_Day.f a2).bind fun t204 => (if t204 = true then (if a1.toList = ([69, 85, 82] : List UInt8) then (some (1000000, 0)) else (customsref04_At.l0 k l0 a1 a2 0 0)) else (some (0, 2)))) else (some (0, t203)))) = some (r1, r2) := h
  clear h
  replace H := Option.bind_eq_some_iff.mp H
  obtain ⟨t203, A40, H⟩ := H
  replace H : (if t203 = 0 then ((customsref04_Day.f a2).bind fun t204 => (if t204 = true then (if a1.toList = ([69, 85, 82] : List UInt8) then (some (1000000, 0)) else (customsref04_At.l0 k l0 a1 a2 0 0)) else (some (0, 2)))) else (some (0, t203))) = some (r1, r2) := H
  have A4 := Aside0.mk A40
  clear A40
  by_cases c5 : t203 = 0
  · rw [if_pos c5] at H
    have c5b0 : (t203 == 0) = true := beq_iff_eq.mpr c5
    have c5b1 : (t203 != 0) = false := bne_eq_false_iff_eq.mpr c5
    clear c5
    replace H := Option.bind_eq_some_iff.mp H
    obtain ⟨t204, A60, H⟩ := H
    replace H : (if t204 = true then (if a1.toList = ([69, 85, 82] : List UInt8) then (some (1000000, 0)) else (customsref04_At.l0 k l0 a1 a2 0 0)) else (some (0, 2))) = some (r1, r2) := H
    have A6 := Aside0.mk A60
    clear A60
    by_cases c7 : t204 = true
    · subst c7
      have H1 : (if a1.toList = ([69, 85, 82] : List UInt8) then (some (1000000, 0)) else (customsref04_At.l0 k l0 a1 a2 0 0)) = some (r1, r2) := by rw [if_pos rfl] at H; exact H
      clear H
      have H := H1
      clear H1
      by_cases c8 : a1.toList = ([69, 85, 82] : List UInt8)
      · rw [if_pos c8] at H
        have c8b0 : (a1.toList == ([69, 85, 82] : List UInt8)) = true := beq_iff_eq.mpr c8
        have c8b1 : (a1.toList != ([69, 85, 82] : List UInt8)) = false := bne_eq_false_iff_eq.mpr c8
        clear c8
        simp only [Option.some.injEq, Prod.mk.injEq] at H
        obtain ⟨rfl, rfl⟩ := H
        go_enter Try.func17, Try.ntmps17
        go_wp2_with (first | ((with_reducible refine gate_callee (f := 12) rfl ?_); refine goesL_ (some 12) rfl rfl Try.func12 (by kernel_rfl) rfl #[.slice A0 l0.length c0] rfl (by (try simp only [List.map_toArray, List.map_cons, List.map_nil]); first | done | rfl | (simp only [List.length_drop, List.length_take]; rfl)) ?_; (with_reducible refine (customsref04_Table.calls k _ _ l0 t203 _ ?side1 ?side2 A4.out).mono ?_); (case side1 => repeat (first | exact HR0.out | (with_reducible refine Kd.C_alloc ?_ _) | (with_reducible refine Kd.C_drewN ?_ _) | (with_reducible refine Kd.C_drew ?_))); (case side2 => exact HC0.out); rintro e w9 ⟨rfl, hb⟩; refine ⟨_, rfl, ?_⟩; have n0_ := Aside0.mk (below_step (by repeat (first | (with_reducible first | exact HB.out | apply below_alloc | apply pw_below_drewN | apply below_drew1) | exact HB.out)) hb); clear HB; have HB := n0_; clear n0_; (try clear hb); (try clear hb2); (try clear hk); (try clear hi)) | ((with_reducible refine gate_callee (f := 27) rfl ?_); refine goesL_ (some 17) rfl rfl Try.func27 (by kernel_rfl) rfl #[.int .i64 a2] rfl (by (try simp only [List.map_toArray, List.map_cons, List.map_nil]); first | done | rfl | (simp only [List.length_drop, List.length_take]; rfl)) ?_; (with_reducible refine (customsref04_Day.calls a2 true _ A6.out).mono ?_); rintro e w' ⟨rfl, ⟨nd, rfl⟩⟩; refine ⟨_, rfl, ?_⟩))
        go_ret2
        exact ⟨by first | rfl | (simp [errW_none, errW_some] <;> rfl) | (simp [*, errW_none, errW_some] <;> rfl) | (simp (disch := first | assumption | omega) only [Int.tdiv_eq_ediv_of_nonneg, Int.tmod_eq_emod_of_nonneg]; rfl), by repeat (first | (with_reducible first | exact HB.out | apply below_alloc | apply pw_below_drewN | apply below_drew1) | exact HB.out)⟩
      · rw [if_neg c8] at H
        have c8b0 : (a1.toList == ([69, 85, 82] : List UInt8)) = false := beq_eq_false_iff_ne.mpr c8
        have c8b1 : (a1.toList != ([69, 85, 82] : List UInt8)) = true := bne_iff_ne.mpr c8
        have H' := Aside0.mk H
        clear H
        go_enter Try.func17, Try.ntmps17
        go_wp2_with (first | ((with_reducible refine gate_callee (f := 12) rfl ?_); refine goesL_ (some 12) rfl rfl Try.func12 (by kernel_rfl) rfl #[.slice A0 l0.length c0] rfl (by (try simp only [List.map_toArray, List.map_cons, List.map_nil]); first | done | rfl | (simp only [List.length_drop, List.length_take]; rfl)) ?_; (with_reducible refine (customsref04_Table.calls k _ _ l0 t203 _ ?side1 ?side2 A4.out).mono ?_); (case side1 => repeat (first | exact HR0.out | (with_reducible refine Kd.C_alloc ?_ _) | (with_reducible refine Kd.C_drewN ?_ _) | (with_reducible refine Kd.C_drew ?_))); (case side2 => exact HC0.out); rintro e w10 ⟨rfl, hb⟩; refine ⟨_, rfl, ?_⟩; have n0_ := Aside0.mk (below_step (by repeat (first | (with_reducible first | exact HB.out | apply below_alloc | apply pw_below_drewN | apply below_drew1) | exact HB.out)) hb); clear HB; have HB := n0_; clear n0_; (try clear hb); (try clear hb2); (try clear hk); (try clear hi)) | ((with_reducible refine gate_callee (f := 27) rfl ?_); refine goesL_ (some 17) rfl rfl Try.func27 (by kernel_rfl) rfl #[.int .i64 a2] rfl (by (try simp only [List.map_toArray, List.map_cons, List.map_nil]); first | done | rfl | (simp only [List.length_drop, List.length_take]; rfl)) ?_; (with_reducible refine (customsref04_Day.calls a2 true _ A6.out).mono ?_); rintro e w' ⟨rfl, ⟨nd, rfl⟩⟩; refine ⟨_, rfl, ?_⟩))
        go_loopg [9, 10] k (fun kq v9 v10 w' => ∃ (x9_1 : Int) (x10_1 : Int), v9 = .int .i64 x9_1 ∧ v10 = .int .i64 x10_1 ∧ Aside0 (customsref04_At.l0 kq l0 a1 a2 x9_1 x10_1 = some (r1, r2)) ∧ Aside0 (kq ≤ k) ∧ Aside0 (Below w.heap.size w w'))
        case atStart => exact ⟨(0), (0), (by first | rfl | (simp; done) | (simp [*]; done)), (by first | rfl | (simp; done) | (simp [*]; done)), H', ⟨Nat.le_refl _⟩, ⟨by repeat (first | (with_reducible first | exact HB.out | apply below_alloc | apply pw_below_drewN | apply below_drew1) | exact HB.out)⟩⟩
        case round =>
          clear H'
          try clear c1
          try clear c2
          try clear p2
          try clear c5
          try clear c5b0
          try clear c5b1
          try clear c7
          try clear c8
          try clear c8b0
          try clear c8b1
          obtain ⟨x9_1, x10_1, rfl, rfl, HA, HK1, HB⟩ := hrel
          cases gk with
          | zero => exact absurd HA.out (by simp [customsref04_At.l0])
          | succ k1 =>
            have H := HA.out
            clear HA
            simp only [customsref04_At.l0] at H
            by_cases c11 : x10_1 < (l0.length : Int)
            · rw [if_pos c11] at H
              have c11b0 : decide (x10_1 < (l0.length : Int)) = true := decide_eq_true c11
              clear c11
              by_cases c12 : 0 ≤ x10_1
              · rw [if_pos c12] at H
                have c12b0 : decide (0 ≤ x10_1) = true := decide_eq_true c12
                clear c12
                by_cases c13 : ((rd_T25 l0 x10_1).f0).toList = a1.toList
                · rw [if_pos c13] at H
                  have c13b0 : (((rd_T25 l0 x10_1).f0).toList == a1.toList) = true := beq_iff_eq.mpr c13
                  have c13b1 : (((rd_T25 l0 x10_1).f0).toList != a1.toList) = false := bne_eq_false_iff_eq.mpr c13
                  clear c13
                  by_cases c14 : ((rd_T25 l0 x10_1).f1) ≤ a2
                  · rw [if_pos c14] at H
                    have c14b0 : decide (((rd_T25 l0 x10_1).f1) ≤ a2) = true := decide_eq_true c14
                    clear c14
                    have H' := Aside0.mk H
                    clear H
                    have p205 : 0 ≤ (x10_1 : Int) := of_decide_eq_true (by first | (with_reducible assumption) | assumption)
                    have q205 : x10_1 < (l0.length : Int) := of_decide_eq_true (by first | (with_reducible assumption) | assumption)
                    obtain ⟨ad205, e205, hx205_0, hx205_1, hx205_2⟩ := at_T25 HR0.out x10_1 p205 q205
                    cases e205
                    replace hx205_0 := (HB.out.cell (World.block_lt_of_cell? w _ hx205_0)).trans hx205_0
                    replace hx205_1 := (HB.out.cell (World.block_lt_of_cell? w _ hx205_1)).trans hx205_1
                    replace hx205_2 := (HB.out.cell (World.block_lt_of_cell? w _ hx205_2)).trans hx205_2
                    replace p205 := eq_true p205
                    replace q205 := eq_true q205
                    have p206 : 0 ≤ (x10_1 : Int) := of_decide_eq_true (by first | (with_reducible assumption) | assumption)
                    have q206 : x10_1 < (l0.length : Int) := of_decide_eq_true (by first | (with_reducible assumption) | assumption)
                    obtain ⟨ad206, e206, hx206_0, hx206_1, hx206_2⟩ := at_T25 HR0.out x10_1 p206 q206
                    obtain rfl : ad205 = ad206 := (by injection e206)
                    replace hx206_0 := (HB.out.cell (World.block_lt_of_cell? w _ hx206_0)).trans hx206_0
                    replace hx206_1 := (HB.out.cell (World.block_lt_of_cell? w _ hx206_1)).trans hx206_1
                    replace hx206_2 := (HB.out.cell (World.block_lt_of_cell? w _ hx206_2)).trans hx206_2
                    replace p206 := eq_true p206
                    replace q206 := eq_true q206
                    have p207 : 0 ≤ (x10_1 : Int) := of_decide_eq_true (by first | (with_reducible assumption) | assumption)
                    have q207 : x10_1 < (l0.length : Int) := of_decide_eq_true (by first | (with_reducible assumption) | assumption)
                    obtain ⟨ad207, e207, hx207_0, hx207_1, hx207_2⟩ := at_T25 HR0.out x10_1 p207 q207
                    obtain rfl : ad205 = ad207 := (by injection e207)
                    replace hx207_0 := (HB.out.cell (World.block_lt_of_cell? w _ hx207_0)).trans hx207_0
                    replace hx207_1 := (HB.out.cell (World.block_lt_of_cell? w _ hx207_1)).trans hx207_1
                    replace hx207_2 := (HB.out.cell (World.block_lt_of_cell? w _ hx207_2)).trans hx207_2
                    replace p207 := eq_true p207
                    replace q207 := eq_true q207
                    go_wp2
                    go_roundg k1
                    case measure => have := HK1.out; omega
                    case rel => exact ⟨((rd_T25 l0 x10_1).f2), (wrap64 (x10_1 + 1)), (by first | rfl | (simp; done) | (simp [*]; done)), (by first | rfl | (simp; done) | (simp [*]; done)), H', ⟨by have := HK1.out; omega⟩, ⟨by repeat (first | (with_reducible first | exact HB.out | apply below_alloc | apply pw_below_drewN | apply below_drew1) | exact HB.out)⟩⟩
                  · rw [if_neg c14] at H
                    have c14b0 : decide (((rd_T25 l0 x10_1).f1) ≤ a2) = false := decide_eq_false c14
                    clear c14
                    have H' := Aside0.mk H
                    clear H
                    have p205 : 0 ≤ (x10_1 : Int) := of_decide_eq_true (by first | (with_reducible assumption) | assumption)
                    have q205 : x10_1 < (l0.length : Int) := of_decide_eq_true (by first | (with_reducible assumption) | assumption)
                    obtain ⟨ad205, e205, hx205_0, hx205_1, hx205_2⟩ := at_T25 HR0.out x10_1 p205 q205
                    cases e205
                    replace hx205_0 := (HB.out.cell (World.block_lt_of_cell? w _ hx205_0)).trans hx205_0
                    replace hx205_1 := (HB.out.cell (World.block_lt_of_cell? w _ hx205_1)).trans hx205_1
                    replace hx205_2 := (HB.out.cell (World.block_lt_of_cell? w _ hx205_2)).trans hx205_2
                    replace p205 := eq_true p205
                    replace q205 := eq_true q205
                    have p206 : 0 ≤ (x10_1 : Int) := of_decide_eq_true (by first | (with_reducible assumption) | assumption)
                    have q206 : x10_1 < (l0.length : Int) := of_decide_eq_true (by first | (with_reducible assumption) | assumption)
                    obtain ⟨ad206, e206, hx206_0, hx206_1, hx206_2⟩ := at_T25 HR0.out x10_1 p206 q206
                    obtain rfl : ad205 = ad206 := (by injection e206)
                    replace hx206_0 := (HB.out.cell (World.block_lt_of_cell? w _ hx206_0)).trans hx206_0
                    replace hx206_1 := (HB.out.cell (World.block_lt_of_cell? w _ hx206_1)).trans hx206_1
                    replace hx206_2 := (HB.out.cell (World.block_lt_of_cell? w _ hx206_2)).trans hx206_2
                    replace p206 := eq_true p206
                    replace q206 := eq_true q206
                    go_wp2
                    go_roundg k1
                    case measure => have := HK1.out; omega
                    case rel => exact ⟨(x9_1), (wrap64 (x10_1 + 1)), (by first | rfl | (simp; done) | (simp [*]; done)), (by first | rfl | (simp; done) | (simp [*]; done)), H', ⟨by have := HK1.out; omega⟩, ⟨by repeat (first | (with_reducible first | exact HB.out | apply below_alloc | apply pw_below_drewN | apply below_drew1) | exact HB.out)⟩⟩
                · rw [if_neg c13] at H
                  have c13b0 : (((rd_T25 l0 x10_1).f0).toList == a1.toList) = false := beq_eq_false_iff_ne.mpr c13
                  have c13b1 : (((rd_T25 l0 x10_1).f0).toList != a1.toList) = true := bne_iff_ne.mpr c13
                  have H' := Aside0.mk H
                  clear H
                  have p205 : 0 ≤ (x10_1 : Int) := of_decide_eq_true (by first | (with_reducible assumption) | assumption)
                  have q205 : x10_1 < (l0.length : Int) := of_decide_eq_true (by first | (with_reducible assumption) | assumption)
                  obtain ⟨ad205, e205, hx205_0, hx205_1, hx205_2⟩ := at_T25 HR0.out x10_1 p205 q205
                  cases e205
                  replace hx205_0 := (HB.out.cell (World.block_lt_of_cell? w _ hx205_0)).trans hx205_0
                  replace hx205_1 := (HB.out.cell (World.block_lt_of_cell? w _ hx205_1)).trans hx205_1
                  replace hx205_2 := (HB.out.cell (World.block_lt_of_cell? w _ hx205_2)).trans hx205_2
                  replace p205 := eq_true p205
                  replace q205 := eq_true q205
                  go_wp2
                  go_roundg k1
                  case measure => have := HK1.out; omega
                  case rel => exact ⟨(x9_1), (wrap64 (x10_1 + 1)), (by first | rfl | (simp; done) | (simp [*]; done)), (by first | rfl | (simp; done) | (simp [*]; done)), H', ⟨by have := HK1.out; omega⟩, ⟨by repeat (first | (with_reducible first | exact HB.out | apply below_alloc | apply pw_below_drewN | apply below_drew1) | exact HB.out)⟩⟩
              · rw [if_neg c12] at H
                exact absurd H (by simp)
            · rw [if_neg c11] at H
              have c11b0 : decide (x10_1 < (l0.length : Int)) = false := decide_eq_false c11
              clear c11
              by_cases c15 : x9_1 = 0
              · rw [if_pos c15] at H
                have c15b0 : (x9_1 == 0) = true := beq_iff_eq.mpr c15
                have c15b1 : (x9_1 != 0) = false := bne_eq_false_iff_eq.mpr c15
                clear c15
                simp only [Option.some.injEq, Prod.mk.injEq] at H
                obtain ⟨rfl, rfl⟩ := H
                go_wp2
                go_ret2
                exact ⟨by first | rfl | (simp [errW_none, errW_some] <;> rfl) | (simp [*, errW_none, errW_some] <;> rfl) | (simp (disch := first | assumption | omega) only [Int.tdiv_eq_ediv_of_nonneg, Int.tmod_eq_emod_of_nonneg]; rfl), by repeat (first | (with_reducible first | exact HB.out | apply below_alloc | apply pw_below_drewN | apply below_drew1) | exact HB.out)⟩
              · rw [if_neg c15] at H
                have c15b0 : (x9_1 == 0) = false := beq_eq_false_iff_ne.mpr c15
                have c15b1 : (x9_1 != 0) = true := bne_iff_ne.mpr c15
                simp only [Option.some.injEq, Prod.mk.injEq] at H
                obtain ⟨rfl, rfl⟩ := H
                go_wp2
                go_ret2
                exact ⟨by first | rfl | (simp [errW_none, errW_some] <;> rfl) | (simp [*, errW_none, errW_some] <;> rfl) | (simp (disch := first | assumption | omega) only [Int.tdiv_eq_ediv_of_nonneg, Int.tmod_eq_emod_of_nonneg]; rfl), by repeat (first | (with_reducible first | exact HB.out | apply below_alloc | apply pw_below_drewN | apply below_drew1) | exact HB.out)⟩
    · replace c7 := Bool.eq_false_iff.mpr c7
      subst c7
      have H1 : (some (0, 2)) = some (r1, r2) := by rw [if_neg (show ¬ (false = true) by decide)] at H; exact H
      clear H
      have H := H1
      clear H1
      simp only [Option.some.injEq, Prod.mk.injEq] at H
      obtain ⟨rfl, rfl⟩ := H
      go_enter Try.func17, Try.ntmps17
      go_wp2_with (first | ((with_reducible refine gate_callee (f := 12) rfl ?_); refine goesL_ (some 12) rfl rfl Try.func12 (by kernel_rfl) rfl #[.slice A0 l0.length c0] rfl (by (try simp only [List.map_toArray, List.map_cons, List.map_nil]); first | done | rfl | (simp only [List.length_drop, List.length_take]; rfl)) ?_; (with_reducible refine (customsref04_Table.calls k _ _ l0 t203 _ ?side1 ?side2 A4.out).mono ?_); (case side1 => repeat (first | exact HR0.out | (with_reducible refine Kd.C_alloc ?_ _) | (with_reducible refine Kd.C_drewN ?_ _) | (with_reducible refine Kd.C_drew ?_))); (case side2 => exact HC0.out); rintro e w16 ⟨rfl, hb⟩; refine ⟨_, rfl, ?_⟩; have n0_ := Aside0.mk (below_step (by repeat (first | (with_reducible first | exact HB.out | apply below_alloc | apply pw_below_drewN | apply below_drew1) | exact HB.out)) hb); clear HB; have HB := n0_; clear n0_; (try clear hb); (try clear hb2); (try clear hk); (try clear hi)) | ((with_reducible refine gate_callee (f := 27) rfl ?_); refine goesL_ (some 17) rfl rfl Try.func27 (by kernel_rfl) rfl #[.int .i64 a2] rfl (by (try simp only [List.map_toArray, List.map_cons, List.map_nil]); first | done | rfl | (simp only [List.length_drop, List.length_take]; rfl)) ?_; (with_reducible refine (customsref04_Day.calls a2 false _ A6.out).mono ?_); rintro e w' ⟨rfl, ⟨nd, rfl⟩⟩; refine ⟨_, rfl, ?_⟩))
      go_ret2
      exact ⟨by first | rfl | (simp [errW_none, errW_some] <;> rfl) | (simp [*, errW_none, errW_some] <;> rfl) | (simp (disch := first | assumption | omega) only [Int.tdiv_eq_ediv_of_nonneg, Int.tmod_eq_emod_of_nonneg]; rfl), by repeat (first | (with_reducible first | exact HB.out | apply below_alloc | apply pw_below_drewN | apply below_drew1) | exact HB.out)⟩
  · rw [if_neg c5] at H
    have c5b0 : (t203 == 0) = false := beq_eq_false_iff_ne.mpr c5
    have c5b1 : (t203 != 0) = true := bne_iff_ne.mpr c5
    simp only [Option.some.injEq, Prod.mk.injEq] at H
    obtain ⟨rfl, rfl⟩ := H
    go_enter Try.func17, Try.ntmps17
    go_wp2_with (first | ((with_reducible refine gate_callee (f := 12) rfl ?_); refine goesL_ (some 12) rfl rfl Try.func12 (by kernel_rfl) rfl #[.slice A0 l0.length c0] rfl (by (try simp only [List.map_toArray, List.map_cons, List.map_nil]); first | done | rfl | (simp only [List.length_drop, List.length_take]; rfl)) ?_; (with_reducible refine (customsref04_Table.calls k _ _ l0 t203 _ ?side1 ?side2 A4.out).mono ?_); (case side1 => repeat (first | exact HR0.out | (with_reducible refine Kd.C_alloc ?_ _) | (with_reducible refine Kd.C_drewN ?_ _) | (with_reducible refine Kd.C_drew ?_))); (case side2 => exact HC0.out); rintro e w17 ⟨rfl, hb⟩; refine ⟨_, rfl, ?_⟩; have n0_ := Aside0.mk (below_step (by repeat (first | (with_reducible first | exact HB.out | apply below_alloc | apply pw_below_drewN | apply below_drew1) | exact HB.out)) hb); clear HB; have HB := n0_; clear n0_; (try clear hb); (try clear hb2); (try clear hk); (try clear hi)))
    go_ret2
    exact ⟨by first | rfl | (simp [errW_none, errW_some] <;> rfl) | (simp [*, errW_none, errW_some] <;> rfl) | (simp (disch := first | assumption | omega) only [Int.tdiv_eq_ediv_of_nonneg, Int.tmod_eq_emod_of_nonneg]; rfl), by repeat (first | (with_reducible first | exact HB.out | apply below_alloc | apply pw_below_drewN | apply below_drew1) | exact HB.out)⟩

end Go.Proofs.Ytpmdlhncfggjkaa.PX
end
section
namespace Go.Proofs.Ytpmdlhncfggjkaa.PX
open Go.RowKit Go.Proofs.YtpmdlhncfggjkaaW.PrintWords Go.Proofs.YtpmdlhncfggjkaaW.PrintLast Go.Proofs.YtpmdlhncfggjkaaW.PrintMore
set_option linter.unusedVariables false
set_option linter.unusedSimpArgs false

theorem Ev.ite {α : Type} {c : Prop} [Decidable c] {f g : Nat → Option α} {r : α} (h1 : c → Ev f r) (h2 : ¬ c → Ev g r) : Ev (fun k => if c then f k else g k) r := by
  by_cases h : c
  · exact Ev.congr (fun k => if_pos h) (h1 h)
  · exact Ev.congr (fun k => if_neg h) (h2 h)
theorem Ev.pos {α : Type} {c : Prop} [Decidable c] {f g : Nat → Option α} {r : α} (h : c) (h1 : Ev f r) : Ev (fun k => if c then f k else g k) r := Ev.congr (fun k => if_pos h) h1
theorem Ev.neg {α : Type} {c : Prop} [Decidable c] {f g : Nat → Option α} {r : α} (h : ¬ c) (h1 : Ev g r) : Ev (fun k => if c then f k else g k) r := Ev.congr (fun k => if_neg h) h1
/- are the bytes from i on, n of them, capital letters -/
def upN (s : ByteArray) : Nat → Int → Bool
  | 0, _ => true
  | n + 1, i => if bt s i < 65 ∨ 90 < bt s i then false else upN s n (i + 1)
def okCode (s : ByteArray) : Bool := decide ((s.size : Int) = 3) && upN s 3 0 && (s.toList != ([69, 85, 82] : List UInt8))
theorem valid_l0 (s : ByteArray) (hs : (s.size : Int) = 3) (n : Nat) : ∀ i : Int, 0 ≤ i → i + n = 3 → Ev (fun k => currency_valid.l0 k s i) (upN s n i) := by
  induction n with
  | zero =>
    intro i h0 h1
    refine Ev.up ?_
    simp only [currency_valid.l0]
    exact Ev.neg (by omega) (Ev.now _)
  | succ n ih =>
    intro i h0 h1
    refine Ev.up ?_
    simp only [currency_valid.l0, upN]
    refine Ev.pos (by omega) (Ev.pos h0 (Ev.pos (by omega) ?_))
    by_cases c : bt s i < 65
    · rw [if_pos (.inl c)]; exact Ev.pos c (Ev.now _)
    · refine Ev.neg c ?_
      by_cases d : 90 < bt s i
      · rw [if_pos (.inr d)]; exact Ev.pos d (Ev.now _)
      · rw [if_neg (by omega)]
        refine Ev.neg d ?_
        rw [wrap64_of (by omega) (by omega)]
        exact ih (i + 1) (by omega) (by omega)
theorem valid_ev (s : ByteArray) : Ev (fun k => currency_valid.f k s) (okCode s) := by
  unfold currency_valid.f okCode
  by_cases hs : (s.size : Int) = 3
  · refine Ev.pos hs (Ev.up ?_)
    simp only [currency_valid.j0]
    rw [decide_eq_true hs, Bool.true_and]
    by_cases e : s.toList = ([69, 85, 82] : List UInt8)
    · rw [show (s.toList == ([69, 85, 82] : List UInt8)) = true by simp [e], show (s.toList != ([69, 85, 82] : List UInt8)) = false by simp [e], Bool.and_false]
      exact Ev.pos rfl (Ev.now _)
    · rw [show (s.toList == ([69, 85, 82] : List UInt8)) = false by simp [e], show (s.toList != ([69, 85, 82] : List UInt8)) = true by simp [e], Bool.and_true]
      exact Ev.neg (by decide) (valid_l0 s hs 3 0 (by omega) (by omega))
  · refine Ev.neg hs (Ev.up ?_)
    simp only [currency_valid.j0]
    rw [decide_eq_false hs]
    exact Ev.pos trivial (Ev.now _)
theorem refCur_l0 (s : ByteArray) (hm : s.size ≤ 9223372036854775807) (n : Nat) : ∀ i : Int, 0 ≤ i → i + n = s.size → Ev (fun k => customsref04_currency.l0 k s i) (decide ((s.size : Int) = 3) && upN s n i && (s.toList != ([69, 85, 82] : List UInt8))) := by
  induction n with
  | zero =>
    intro i h0 h1
    refine Ev.up ?_
    simp only [customsref04_currency.l0]
    refine Ev.neg (by omega) ?_
    by_cases hs : (s.size : Int) = 3
    · rw [decide_eq_true hs]; exact Ev.pos hs (Ev.now _)
    · rw [decide_eq_false hs]; exact Ev.neg hs (Ev.now _)
  | succ n ih =>
    intro i h0 h1
    refine Ev.up ?_
    simp only [customsref04_currency.l0, upN]
    refine Ev.pos (by omega) (Ev.pos h0 ?_)
    by_cases c : bt s i < 65
    · rw [if_pos (.inl c), Bool.and_false, Bool.false_and]; exact Ev.pos c (Ev.now _)
    · refine Ev.neg c ?_
      by_cases d : 90 < bt s i
      · rw [if_pos (.inr d), Bool.and_false, Bool.false_and]; exact Ev.pos d (Ev.now _)
      · rw [if_neg (by omega)]
        refine Ev.neg d ?_
        rw [wrap64_of (by omega) (by omega)]
        exact ih (i + 1) (by omega) (by omega)
theorem refCur_ev (s : ByteArray) (hm : s.size ≤ 9223372036854775807) : Ev (fun k => customsref04_currency.f k s) (okCode s) := by
  unfold customsref04_currency.f okCode
  by_cases hs : (s.size : Int) = 3
  · have := refCur_l0 s hm 3 0 (by omega) (by omega)
    exact this
  · have := refCur_l0 s hm s.size 0 (by omega) (by omega)
    rw [decide_eq_false hs] at this ⊢
    exact this
/- the error of the row i of a table -/
def rowErr (t : List S25) (i : Int) : Int :=
  if okCode (rd_T25 t i).f0 = false then 1 else if (rd_T25 t i).f1 < 0 ∨ 36524 < (rd_T25 t i).f1 ∨ (rd_T25 t i).f2 < 1 ∨ 1000000000 < (rd_T25 t i).f2 then 2
  else if i = 0 then 0 else if Op.bytesLess (rd_T25 t i).f0.toList (rd_T25 t (i - 1)).f0.toList = true ∨ (rd_T25 t i).f0.toList = (rd_T25 t (i - 1)).f0.toList ∧ (rd_T25 t i).f1 ≤ (rd_T25 t (i - 1)).f1 then 9 else 0
def scanN (t : List S25) : Nat → Int → Int
  | 0, _ => 0
  | n + 1, i => if rowErr t i = 0 then scanN t n (i + 1) else rowErr t i
theorem scan_err {t : List S25} {n : Nat} {i e : Int} (h : rowErr t i = e) (he : e ≠ 0) : scanN t (n + 1) i = e := by
  simp only [scanN, h]; rw [if_neg he]
theorem scan_ok {t : List S25} {n : Nat} {i : Int} (h : rowErr t i = 0) : scanN t (n + 1) i = scanN t n (i + 1) := by
  simp only [scanN, h, if_true]
def badRow (x : S25) : Prop := x.f1 < 0 ∨ 36524 < x.f1 ∨ x.f2 < 1 ∨ 1000000000 < x.f2
def badTwo (p x : S25) : Prop := Op.bytesLess x.f0.toList p.f0.toList = true ∨ x.f0.toList = p.f0.toList ∧ x.f1 ≤ p.f1
theorem row1 {t : List S25} {i : Int} (h : okCode (rd_T25 t i).f0 = false) : rowErr t i = 1 := by unfold rowErr; rw [if_pos h]
theorem row2 {t : List S25} {i : Int} (h : okCode (rd_T25 t i).f0 = true) (b : badRow (rd_T25 t i)) : rowErr t i = 2 := by unfold rowErr; rw [if_neg (by rw [h]; decide)]; exact if_pos b
theorem row0 {t : List S25} {i : Int} (h : okCode (rd_T25 t i).f0 = true) (b : ¬ badRow (rd_T25 t i)) (h0 : i = 0) : rowErr t i = 0 := by unfold rowErr; unfold badRow at b; rw [if_neg (by rw [h]; decide), if_neg b, if_pos h0]
theorem row9 {t : List S25} {i : Int} (h : okCode (rd_T25 t i).f0 = true) (b : ¬ badRow (rd_T25 t i)) (h0 : ¬ i = 0) (b2 : badTwo (rd_T25 t (i - 1)) (rd_T25 t i)) : rowErr t i = 9 := by unfold rowErr; unfold badRow at b; unfold badTwo at b2; rw [if_neg (by rw [h]; decide), if_neg b, if_neg h0]; exact if_pos b2
theorem row00 {t : List S25} {i : Int} (h : okCode (rd_T25 t i).f0 = true) (b : ¬ badRow (rd_T25 t i)) (h0 : ¬ i = 0) (b2 : ¬ badTwo (rd_T25 t (i - 1)) (rd_T25 t i)) : rowErr t i = 0 := by unfold rowErr; unfold badRow at b; unfold badTwo at b2; rw [if_neg (by rw [h]; decide), if_neg b, if_neg h0]; exact if_neg b2
/- P5.1: the error of a table -/
def tabErr (t : List S25) : Int := if 1000 < t.length then 8 else scanN t t.length 0
theorem less_tri (a b : List UInt8) : (Op.bytesLess a b = true ∧ a ≠ b ∧ Op.bytesLess b a = false) ∨ (a = b ∧ Op.bytesLess b a = false ∧ Op.bytesLess a b = false) ∨ (Op.bytesLess b a = true ∧ a ≠ b ∧ Op.bytesLess a b = false) := by
  rw [bytesLess_eq, bytesLess_eq]
  by_cases h1 : a < b
  · exact .inl ⟨decide_eq_true h1, fun e => List.lt_irrefl _ (e ▸ h1), decide_eq_false (List.lt_asymm h1)⟩
  · by_cases h2 : b < a
    · exact .inr (.inr ⟨decide_eq_true h2, fun e => List.lt_irrefl _ (e ▸ h2), decide_eq_false h1⟩)
    · exact .inr (.inl ⟨List.le_antisymm (List.not_lt.mp h2) (List.not_lt.mp h1), decide_eq_false h2, decide_eq_false h1⟩)
theorem validate_l0 (t : List S25) (hl : t.length ≤ 1000) (n : Nat) : ∀ i : Int, 0 ≤ i → i + n = t.length → Ev (fun k => currency_Validate.l0 k t t (t.length : Int) i) (scanN t n i) := by
  induction n with
  | zero =>
    intro i h0 h1
    refine Ev.up ?_
    simp only [currency_Validate.l0]
    exact Ev.neg (by omega) (Ev.now _)
  | succ n ih =>
    intro i h0 h1
    refine Ev.up ?_
    have hi := ih (i + 1) (by omega) (by omega)
    simp only [currency_Validate.l0]
    refine Ev.pos (by omega) (Ev.pos h0 (Ev.pos (by omega) ?_))
    refine Ev.bind (valid_ev _) ?_
    have bad : Ev (fun k => currency_Validate.j1 k t i t (t.length : Int) i true (rd_T25 t i).f0 (rd_T25 t i).f1 (rd_T25 t i).f2) 2 := by
      refine Ev.up ?_
      simp only [currency_Validate.j1, if_true]
      exact Ev.now _
    cases hk : okCode (rd_T25 t i).f0 with
    | false => rw [scan_err (row1 hk) (by decide)]; exact Ev.neg (by decide) (Ev.now _)
    | true =>
      refine Ev.pos rfl ?_
      by_cases c1 : (rd_T25 t i).f1 < 0
      · rw [scan_err (row2 hk (.inl c1)) (by decide)]; exact Ev.pos c1 bad
      refine Ev.neg c1 ?_
      by_cases c2 : (rd_T25 t i).f1 > 36524
      · rw [scan_err (row2 hk (.inr (.inl c2))) (by decide)]; exact Ev.pos c2 bad
      refine Ev.neg c2 ?_
      by_cases c3 : (rd_T25 t i).f2 < 1
      · rw [scan_err (row2 hk (.inr (.inr (.inl c3)))) (by decide)]; exact Ev.pos c3 bad
      refine Ev.neg c3 ?_
      by_cases c4 : (rd_T25 t i).f2 > 1000000000
      · rw [scan_err (row2 hk (.inr (.inr (.inr c4)))) (by decide), decide_eq_true c4]; exact bad
      have hb : ¬ badRow (rd_T25 t i) := by unfold badRow; omega
      rw [decide_eq_false c4]
      refine Ev.up ?_
      simp only [currency_Validate.j1, Bool.false_eq_true, if_false]
      rw [wrap64_of (x := i + 1) (by omega) (by omega)]
      by_cases c5 : i = 0
      · rw [scan_ok (row0 hk hb c5)]; exact Ev.pos c5 hi
      refine Ev.neg c5 ?_
      rw [wrap64_of (x := i - 1) (by omega) (by omega)]
      refine Ev.pos (by omega) (Ev.pos (by omega) ?_)
      rcases less_tri (rd_T25 t (i - 1)).f0.toList (rd_T25 t i).f0.toList with ⟨e1, e2, e3⟩ | ⟨e1, e2, e3⟩ | ⟨e1, e2, e3⟩
      · rw [scan_ok (row00 hk hb c5 (fun h => h.elim (by rw [e3]; decide) (fun h => e2 h.1.symm)))]
        exact Ev.pos e1 (Ev.neg e2 hi)
      · refine Ev.neg (by rw [e3]; decide) (Ev.pos e1 ?_)
        by_cases c6 : (rd_T25 t (i - 1)).f1 ≥ (rd_T25 t i).f1
        · rw [scan_err (row9 hk hb c5 (.inr ⟨e1.symm, c6⟩)) (by decide)]; exact Ev.pos c6 (Ev.now _)
        · rw [scan_ok (row00 hk hb c5 (fun h => h.elim (by rw [e2]; decide) (fun h => c6 h.2)))]
          exact Ev.neg c6 hi
      · rw [scan_err (row9 hk hb c5 (.inl e1)) (by decide)]
        exact Ev.neg (by rw [e3]; decide) (Ev.neg e2 (Ev.now _))
theorem validate_ev (t : List S25) : Ev (fun k => currency_Validate.f k t) (tabErr t) := by
  unfold currency_Validate.f tabErr
  by_cases c : 1000 < t.length
  · rw [if_pos c]; exact Ev.pos (by omega) (Ev.now _)
  · rw [if_neg c]; exact Ev.neg (by omega) (validate_l0 t (by omega) t.length 0 (by omega) (by omega))
theorem refDay_is (d : Int) : customsref04_Day.f d = some (decide (0 ≤ d ∧ d ≤ 36524)) := by
  unfold customsref04_Day.f
  by_cases c : d ≥ 0
  · rw [if_pos c]; refine congrArg some ?_; rw [Bool.eq_iff_iff]; simp only [decide_eq_true_eq]; omega
  · rw [if_neg c, decide_eq_false (by omega)]
theorem refTable_l0 (t : List S25) (hl : t.length ≤ 1000) (hz : ∀ i : Int, 0 ≤ i → i < t.length → (rd_T25 t i).f0.size ≤ 9223372036854775807) (n : Nat) : ∀ i : Int, 0 ≤ i → i + n = t.length → Ev (fun k => customsref04_Table.l0 k t i) (scanN t n i) := by
  induction n with
  | zero =>
    intro i h0 h1
    refine Ev.up ?_
    simp only [customsref04_Table.l0]
    exact Ev.neg (by omega) (Ev.now _)
  | succ n ih =>
    intro i h0 h1
    refine Ev.up ?_
    have hi := ih (i + 1) (by omega) (by omega)
    simp only [customsref04_Table.l0]
    refine Ev.pos (by omega) (Ev.pos h0 ?_)
    refine Ev.bind (refCur_ev _ (hz i h0 (by omega))) ?_
    have bad : Ev (fun k => customsref04_Table.j1 k t i true (rd_T25 t i).f0 (rd_T25 t i).f1 (rd_T25 t i).f2) 2 := by
      refine Ev.up ?_
      simp only [customsref04_Table.j1, if_true]
      exact Ev.now _
    cases hk : okCode (rd_T25 t i).f0 with
    | false => rw [scan_err (row1 hk) (by decide)]; exact Ev.neg (by decide) (Ev.now _)
    | true =>
      refine Ev.pos rfl ?_
      rw [refDay_is]
      simp only [Option.bind_some]
      by_cases c1 : 0 ≤ (rd_T25 t i).f1 ∧ (rd_T25 t i).f1 ≤ 36524
      case neg => rw [scan_err (row2 hk (by unfold badRow; omega)) (by decide), decide_eq_false c1]; exact Ev.neg (by decide) bad
      rw [decide_eq_true c1]
      refine Ev.pos rfl ?_
      by_cases c3 : (rd_T25 t i).f2 < 1
      · rw [scan_err (row2 hk (.inr (.inr (.inl c3)))) (by decide)]; exact Ev.pos c3 bad
      refine Ev.neg c3 ?_
      by_cases c4 : (rd_T25 t i).f2 > 1000000000
      · rw [scan_err (row2 hk (.inr (.inr (.inr c4)))) (by decide), decide_eq_true c4]; exact bad
      have hb : ¬ badRow (rd_T25 t i) := by unfold badRow; omega
      rw [decide_eq_false c4]
      refine Ev.up ?_
      simp only [customsref04_Table.j1, Bool.false_eq_true, if_false]
      rw [wrap64_of (x := i + 1) (by omega) (by omega)]
      by_cases c5 : i = 0
      · rw [scan_ok (row0 hk hb c5)]; exact Ev.neg (by omega) hi
      refine Ev.pos (by omega) ?_
      rw [wrap64_of (x := i - 1) (by omega) (by omega)]
      refine Ev.pos (by omega) (Ev.pos (by omega) ?_)
      by_cases e1 : Op.bytesLess (rd_T25 t i).f0.toList (rd_T25 t (i - 1)).f0.toList = true
      · rw [scan_err (row9 hk hb c5 (.inl e1)) (by decide)]; exact Ev.pos e1 (Ev.now _)
      · refine Ev.neg e1 ?_
        by_cases e2 : (rd_T25 t i).f0.toList = (rd_T25 t (i - 1)).f0.toList
        · refine Ev.pos e2 ?_
          by_cases c6 : (rd_T25 t i).f1 ≤ (rd_T25 t (i - 1)).f1
          · rw [scan_err (row9 hk hb c5 (.inr ⟨e2, c6⟩)) (by decide)]; exact Ev.pos c6 (Ev.now _)
          · rw [scan_ok (row00 hk hb c5 (fun h => h.elim e1 (fun h => c6 h.2)))]; exact Ev.neg c6 hi
        · rw [scan_ok (row00 hk hb c5 (fun h => h.elim e1 (fun h => e2 h.1)))]; exact Ev.neg e2 hi
theorem refTable_ev (t : List S25) (hz : ∀ i : Int, 0 ≤ i → i < t.length → (rd_T25 t i).f0.size ≤ 9223372036854775807) : Ev (fun k => customsref04_Table.f k t) (tabErr t) := by
  unfold customsref04_Table.f tabErr
  by_cases c : 1000 < t.length
  · rw [if_pos c]; exact Ev.pos (by omega) (Ev.now _)
  · rw [if_neg c]; exact Ev.neg (by omega) (refTable_l0 t (by omega) hz t.length 0 (by omega) (by omega))
end Go.Proofs.Ytpmdlhncfggjkaa.PX
end
section
namespace Go.Proofs.Ytpmdlhncfggjkaa.PX
open Go.RowKit Go.Proofs.YtpmdlhncfggjkaaW.PrintWords Go.Proofs.YtpmdlhncfggjkaaW.PrintLast Go.Proofs.YtpmdlhncfggjkaaW.PrintMore
set_option linter.unusedVariables false
set_option linter.unusedSimpArgs false

theorem scan_zero {t : List S25} {n : Nat} : ∀ {i : Int}, scanN t n i = 0 → ∀ j : Int, i ≤ j → j < i + n → rowErr t j = 0 := by
  induction n with
  | zero => intro i _ j h1 h2; omega
  | succ n ih =>
    intro i h j h1 h2
    by_cases c : rowErr t i = 0
    · rw [scan_ok c] at h
      by_cases d : j = i
      · rw [d]; exact c
      · exact ih h j (by omega) (by omega)
    · rw [scan_err rfl c] at h; exact absurd h c
theorem tab_zero {t : List S25} (h : tabErr t = 0) : t.length ≤ 1000 ∧ ∀ j : Int, 0 ≤ j → j < t.length → rowErr t j = 0 := by
  unfold tabErr at h
  by_cases c : 1000 < t.length
  · rw [if_pos c] at h; exact absurd h (by decide)
  · rw [if_neg c] at h
    exact ⟨by omega, fun j h1 h2 => scan_zero h j h1 (by omega)⟩
theorem row_zero {t : List S25} {i : Int} (h : rowErr t i = 0) : okCode (rd_T25 t i).f0 = true ∧ ¬ badRow (rd_T25 t i) := by
  cases hk : okCode (rd_T25 t i).f0 with
  | false => rw [row1 hk] at h; exact absurd h (by decide)
  | true =>
    refine ⟨rfl, fun b => ?_⟩
    rw [row2 hk b] at h; exact absurd h (by decide)
theorem code_size {s : ByteArray} (h : okCode s = true) : s.size = 3 ∧ s.toList ≠ ([69, 85, 82] : List UInt8) := by
  unfold okCode at h
  simp only [Bool.and_eq_true, decide_eq_true_eq, bne_iff_ne] at h
  exact ⟨by omega, h.2⟩
theorem rows_ok {t : List S25} (h : tabErr t = 0) : t.all rowOk = true := by
  obtain ⟨_, h2⟩ := tab_zero h
  refine List.all_eq_true.mpr fun x hx => ?_
  obtain ⟨j, hj, rfl⟩ := List.getElem_of_mem hx
  obtain ⟨a, b⟩ := row_zero (h2 (j : Int) (by omega) (by omega))
  have e : rd_T25 t (j : Int) = t[j] := by simp [rd_T25, List.getD, hj]
  rw [e] at a b
  have := (code_size a).1
  unfold badRow at b
  simp only [rowOk, Bool.and_eq_true, decide_eq_true_eq]
  omega
/- P5.2: the rate of a day, and the error -/
def rateS : Option Int → Int × Int
  | some v => (v, 0)
  | none => (0, 6)
def atS (t : List S25) (cur : ByteArray) (day : Int) : Int × Int := if tabErr t = 0 then (if day < 0 ∨ 36524 < day then (0, 2) else rateS (rateOf t cur day)) else (0, tabErr t)
theorem at_ev (t : List S25) (cur : ByteArray) (day : Int) (hc : cur.size ≤ 140737488355327) : Ev (fun k => currency_At.f k t cur day) (atS t cur day) := by
  unfold currency_At.f
  refine Ev.bind (validate_ev t) ?_
  by_cases h : tabErr t = 0
  · have e : atS t cur day = if day < 0 ∨ 36524 < day then (0, 2) else rateS (rateOf t cur day) := by unfold atS; exact if_pos h
    rw [e]
    refine Ev.pos h ?_
    by_cases c1 : day < 0
    · exact Ev.as (Ev.pos c1 (Ev.now _)) (if_pos (.inl c1)).symm
    refine Ev.neg c1 ?_
    by_cases c2 : day > 36524
    · exact Ev.as (Ev.pos c2 (Ev.now _)) (if_pos (.inr c2)).symm
    refine Ev.neg c2 ?_
    refine Ev.as (Ev.pos (rows_ok h) (Ev.pos ⟨hc, (tab_zero h).1⟩ ?_)) (if_neg (by omega)).symm
    cases rateOf t cur day <;> exact Ev.now _
  · exact Ev.as (Ev.neg h (Ev.now _)) (by unfold atS; exact (if_neg h).symm)
theorem rate_pos {t : List S25} (h : tabErr t = 0) (cur : ByteArray) (day : Int) (n : Nat) : n ≤ t.length → ∀ v, rateOf (t.take n) cur day = some v → 1 ≤ v ∧ v ≤ 1000000000 := by
  induction n with
  | zero =>
    intro _ v hv
    simp only [List.take_zero, rateOf, List.foldl_nil] at hv
    split at hv
    · cases hv; omega
    · cases hv
  | succ n ih =>
    intro hn v hv
    rw [rateOf_step t n (by omega)] at hv
    split at hv
    · have := (row_zero ((tab_zero h).2 (n : Int) (by omega) (by omega))).2
      unfold badRow at this
      simp only [Option.some.injEq] at hv
      subst hv; omega
    · exact ih (by omega) v hv
end Go.Proofs.Ytpmdlhncfggjkaa.PX
end
section
namespace Go.Proofs.Ytpmdlhncfggjkaa.PX
open Go.RowKit Go.Proofs.YtpmdlhncfggjkaaW.PrintWords Go.Proofs.YtpmdlhncfggjkaaW.PrintLast Go.Proofs.YtpmdlhncfggjkaaW.PrintMore
attribute [local go_sem] max2_int min2_int max_two min_two max_three min_three max_four min_four   -- for this text's walks alone
set_option linter.unusedVariables false
set_option linter.unusedSimpArgs false

/-! ### customsref02_Amount: function 30 -/
def customsref02_Amount.f (a0 : Int) : Option (Bool) := if a0 ≥ (-1000000000000) then (some (decide (a0 ≤ 1000000000000))) else (some false)
set_option maxHeartbeats 8000000 in
set_option maxRecDepth 100000 in
theorem customsref02_Amount.calls (a0 : Int) (r : Bool) (w : World) (h : customsref02_Amount.f a0 = some r) :
    Calls Try.prog 30 #[.int .i64 a0] w fun e w' => e = .returned (.bool r) ∧ Drawn0 w w' := by
  have H : (if a0 ≥ (-1000000000000) then (some (decide (a0 ≤ 1000000000000))) else (some false)) = some r := h
  clear h
  by_cases c2 : a0 ≥ (-1000000000000)
  · rw [if_pos c2] at H
    have c2b0 : decide ((-1000000000000) ≤ a0) = true := decide_eq_true c2
    clear c2
    obtain rfl := Option.some.inj H
    go_enter Try.func30, Try.ntmps30
    go_wp2
    go_ret
    exact ⟨by first | rfl | (simp; done) | (simp [*]; done), by repeat (first | exact Drawn0.refl _ | apply Drawn0.step)⟩
  · rw [if_neg c2] at H
    have c2b0 : decide ((-1000000000000) ≤ a0) = false := decide_eq_false c2
    clear c2
    obtain rfl := Option.some.inj H
    go_enter Try.func30, Try.ntmps30
    go_wp2
    go_ret
    exact ⟨by first | rfl | (simp; done) | (simp [*]; done), by repeat (first | exact Drawn0.refl _ | apply Drawn0.step)⟩

end Go.Proofs.Ytpmdlhncfggjkaa.PX
end
section
namespace Go.Proofs.Ytpmdlhncfggjkaa.PX
open Go.RowKit Go.Proofs.YtpmdlhncfggjkaaW.PrintWords Go.Proofs.YtpmdlhncfggjkaaW.PrintLast Go.Proofs.YtpmdlhncfggjkaaW.PrintMore
attribute [local go_sem] max2_int min2_int max_two min_two max_three min_three max_four min_four   -- for this text's walks alone
set_option linter.unusedVariables false
set_option linter.unusedSimpArgs false

/-! ### customsref04_Cross: function 21 -/
mutual
def customsref04_Cross.j0 : Nat → Int → Int → Int → Int → Bool → Option (Int × Int)
  | 0, _, _, _, _, _ => none
  | k + 1, x1, x5, x14, x16, x48 => if x48 = true then (some (0, 2)) else ((customsref01_MulDiv.f k (IntKind.u64.wrap (mx x1 (wrap64 (-x1)))) (IntKind.u64.wrap (x14)) (IntKind.u64.wrap (x16)) x5).bind fun bt270 => (if bt270.2 = 0 then (customsref04_Cross.j1 k x1 bt270.1 (decide (bt270.1 > 1000000000000))) else (customsref04_Cross.j1 k x1 bt270.1 true)))
def customsref04_Cross.j1 : Nat → Int → Int → Bool → Option (Int × Int)
  | 0, _, _, _ => none
  | k + 1, x1, x17, x68 => if x68 = true then (some (0, 3)) else (if x1 < 0 then (some (wrap64 (-(wrap64 (x17))), 0)) else (some (wrap64 (x17), 0)))
end
def customsref04_Cross.f (k : Nat) (l0 : List (S25)) (a1 : Int) (a2 : ByteArray) (a3 : ByteArray) (a4 : Int) (a5 : Int) : Option (Int × Int) := (customsref04_At.f k l0 a2 a4).bind fun bt265 => (if bt265.2 = 0 then ((customsref04_At.f k l0 a3 a4).bind fun bt267 => (if bt267.2 = 0 then ((customsref02_Amount.f a1).bind fun t269 => (if t269 = true then (if a5 < 0 then (customsref04_Cross.j0 k a1 a5 bt265.1 bt267.1 true) else (customsref04_Cross.j0 k a1 a5 bt265.1 bt267.1 (decide (a5 > 3)))) else (customsref04_Cross.j0 k a1 a5 bt265.1 bt267.1 true))) else (some (0, bt267.2)))) else (some (0, bt265.2)))
set_option maxHeartbeats 8000000 in
set_option maxRecDepth 100000 in
theorem customsref04_Cross.calls (k : Nat) (A0 : Option Addr) (c0 : Nat) (l0 : List (S25)) (a1 : Int) (a2 : ByteArray) (a3 : ByteArray) (a4 : Int) (a5 : Int) (r1 : Int) (r2 : Int) (w : World) (hr0 : Kd.C k25 w A0 l0.length l0) (hc0 : l0.length ≤ c0) (h : customsref04_Cross.f k l0 a1 a2 a3 a4 a5 = some (r1, r2)) :
    Calls Try.prog 21 #[.slice A0 l0.length c0, .int .i64 a1, .string a2, .string a3, .int .i64 a4, .int .i64 a5] w fun e w' => e = .returned (.tuple #[.int .i64 r1, .int .i64 r2]) ∧ Below w.heap.size w w' := by
  have HR0 := Aside0.mk hr0
  have HC0 := Aside0.mk hc0
  clear hr0 hc0
  have HB := Aside0.mk (Below.refl w.heap.size w)
  have H : ((customsref04_At.f k l0 a2 a4).bind fun bt265 => (if bt265.2 = 0 then ((customsref04_At.f k l0 a3 a4).bind fun bt267 => (if bt267.2 = 0 then ((customsref02_Amount.f a1).bind fun t269 => (if t269 = true then (if a5 < 0 then (customsref04_Cross.j0 k a1 a5 bt265.1 bt267.1 true) else (customsref04_Cross.j0 k a1 a5 bt265.1 bt267.1 (decide (a5 > 3)))) else (customsref04_Cross.j0 k a1 a5 bt265.1 bt267.1 true))) else (some (0, bt267.2)))) else (some (0, bt265.2)))) = some (r1, r2) := h
  clear h
  replace H := Option.bind_eq_some_iff.mp H
  obtain ⟨⟨t265, t266⟩, A70, H⟩ := H
  replace H : (if t266 = 0 then ((customsref04_At.f k l0 a3 a4).bind fun bt267 => (if bt267.2 = 0 then ((customsref02_Amount.f a1).bind fun t269 => (if t269 = true then (if a5 < 0 then (customsref04_Cross.j0 k a1 a5 t265 bt267.1 true) else (customsref04_Cross.j0 k a1 a5 t265 bt267.1 (decide (a5 > 3)))) else (customsref04_Cross.j0 k a1 a5 t265 bt267.1 true))) else (some (0, bt267.2)))) else (some (0, t266))) = some (r1, r2) := H
  have A7 := Aside0.mk A70
  clear A70
  by_cases c8 : t266 = 0
  · rw [if_pos c8] at H
    have c8b0 : (t266 == 0) = true := beq_iff_eq.mpr c8
    have c8b1 : (t266 != 0) = false := bne_eq_false_iff_eq.mpr c8
    clear c8
    replace H := Option.bind_eq_some_iff.mp H
    obtain ⟨⟨t267, t268⟩, A90, H⟩ := H
    replace H : (if t268 = 0 then ((customsref02_Amount.f a1).bind fun t269 => (if t269 = true then (if a5 < 0 then (customsref04_Cross.j0 k a1 a5 t265 t267 true) else (customsref04_Cross.j0 k a1 a5 t265 t267 (decide (a5 > 3)))) else (customsref04_Cross.j0 k a1 a5 t265 t267 true))) else (some (0, t268))) = some (r1, r2) := H
    have A9 := Aside0.mk A90
    clear A90
    by_cases c10 : t268 = 0
    · rw [if_pos c10] at H
      have c10b0 : (t268 == 0) = true := beq_iff_eq.mpr c10
      have c10b1 : (t268 != 0) = false := bne_eq_false_iff_eq.mpr c10
      clear c10
      have HC11 := Aside0.mk H
      clear H
      go_enter Try.func21, Try.ntmps21
      go_upto_region 7 with (first | ((with_reducible refine gate_callee (f := 17) rfl ?_); refine goesL_ (some 22) rfl rfl Try.func17 (by kernel_rfl) rfl #[.slice A0 l0.length c0, .string a2, .int .i64 a4] rfl (by (try simp only [List.map_toArray, List.map_cons, List.map_nil]); first | done | rfl | (simp only [List.length_drop, List.length_take]; rfl)) ?_; (with_reducible refine (customsref04_At.calls k _ _ l0 a2 a4 t265 t266 _ ?side1 ?side2 A7.out).mono ?_); (case side1 => repeat (first | exact HR0.out | (with_reducible refine Kd.C_alloc ?_ _) | (with_reducible refine Kd.C_drewN ?_ _) | (with_reducible refine Kd.C_drew ?_))); (case side2 => exact HC0.out); rintro e w12 ⟨rfl, hb⟩; refine ⟨_, rfl, ?_⟩; have n0_ := Aside0.mk (below_step (by repeat (first | (with_reducible first | exact HB.out | apply below_alloc | apply pw_below_drewN | apply below_drew1) | exact HB.out)) hb); clear HB; have HB := n0_; clear n0_; (try clear hb); (try clear hb2); (try clear hk); (try clear hi)) | ((with_reducible refine gate_callee (f := 17) rfl ?_); refine goesL_ (some 32) rfl rfl Try.func17 (by kernel_rfl) rfl #[.slice A0 l0.length c0, .string a3, .int .i64 a4] rfl (by (try simp only [List.map_toArray, List.map_cons, List.map_nil]); first | done | rfl | (simp only [List.length_drop, List.length_take]; rfl)) ?_; (with_reducible refine (customsref04_At.calls k _ _ l0 a3 a4 t267 t268 _ ?side1 ?side2 A9.out).mono ?_); (case side1 => repeat (first | exact (Kd.C_below HR0.out HB.out) | (with_reducible refine Kd.C_alloc ?_ _) | (with_reducible refine Kd.C_drewN ?_ _) | (with_reducible refine Kd.C_drew ?_))); (case side2 => exact HC0.out); rintro e w13 ⟨rfl, hb⟩; refine ⟨_, rfl, ?_⟩; have n0_ := Aside0.mk (below_step (by repeat (first | (with_reducible first | exact HB.out | apply below_alloc | apply pw_below_drewN | apply below_drew1) | exact HB.out)) hb); clear HB; have HB := n0_; clear n0_; (try clear hb); (try clear hb2); (try clear hk); (try clear hi)))
      (try simp only [Act.put, List.setIfInBounds_toArray, List.set_cons_zero, List.set_cons_succ])
      go_cut [48] (fun v48 wc => ∃ (kq : Nat) (x48_10 : Bool), v48 = .bool x48_10 ∧ Aside0 (customsref04_Cross.j0 kq a1 a5 t265 t267 x48_10 = some (r1, r2)) ∧ Aside0 (kq ≤ k) ∧ Aside0 (Below w.heap.size w wc))
      case first =>
        have H := HC11.out
        clear HC11
        replace H := Option.bind_eq_some_iff.mp H
        obtain ⟨t269, A140, H⟩ := H
        replace H : (if t269 = true then (if a5 < 0 then (customsref04_Cross.j0 k a1 a5 t265 t267 true) else (customsref04_Cross.j0 k a1 a5 t265 t267 (decide (a5 > 3)))) else (customsref04_Cross.j0 k a1 a5 t265 t267 true)) = some (r1, r2) := H
        have A14 := Aside0.mk A140
        clear A140
        by_cases c15 : t269 = true
        · subst c15
          have H1 : (if a5 < 0 then (customsref04_Cross.j0 k a1 a5 t265 t267 true) else (customsref04_Cross.j0 k a1 a5 t265 t267 (decide (a5 > 3)))) = some (r1, r2) := by rw [if_pos rfl] at H; exact H
          clear H
          have H := H1
          clear H1
          by_cases c16 : a5 < 0
          · rw [if_pos c16] at H
            have c16b0 : decide (a5 < 0) = true := decide_eq_true c16
            clear c16
            (first | rw [c16b0] | (simp only [i64_w, i32_w]; rw [c16b0]) | skip)
            have H' := Aside0.mk H
            clear H
            go_wp2_with (first | ((with_reducible refine gate_callee (f := 30) rfl ?_); refine goesL_ (some 39) rfl rfl Try.func30 (by kernel_rfl) rfl #[.int .i64 a1] rfl (by (try simp only [List.map_toArray, List.map_cons, List.map_nil]); first | done | rfl | (simp only [List.length_drop, List.length_take]; rfl)) ?_; (with_reducible refine (customsref02_Amount.calls a1 true _ A14.out).mono ?_); rintro e w' ⟨rfl, ⟨nd, rfl⟩⟩; refine ⟨_, rfl, ?_⟩))
            go_meet
            case rel => exact ⟨_, (true), (by first | rfl | (simp; done) | (simp [*]; done)), H', ⟨by first | omega | exact Nat.le_refl _⟩, ⟨by repeat (first | (with_reducible first | exact HB.out | apply below_alloc | apply pw_below_drewN | apply below_drew1) | exact HB.out)⟩⟩
          · rw [if_neg c16] at H
            have c16b0 : decide (a5 < 0) = false := decide_eq_false c16
            clear c16
            (first | rw [c16b0] | (simp only [i64_w, i32_w]; rw [c16b0]) | skip)
            have H' := Aside0.mk H
            clear H
            go_wp2_with (first | ((with_reducible refine gate_callee (f := 30) rfl ?_); refine goesL_ (some 39) rfl rfl Try.func30 (by kernel_rfl) rfl #[.int .i64 a1] rfl (by (try simp only [List.map_toArray, List.map_cons, List.map_nil]); first | done | rfl | (simp only [List.length_drop, List.length_take]; rfl)) ?_; (with_reducible refine (customsref02_Amount.calls a1 true _ A14.out).mono ?_); rintro e w' ⟨rfl, ⟨nd, rfl⟩⟩; refine ⟨_, rfl, ?_⟩))
            go_meet
            case rel => exact ⟨_, (decide (a5 > 3)), (by first | rfl | (simp; done) | (simp [*]; done)), H', ⟨by first | omega | exact Nat.le_refl _⟩, ⟨by repeat (first | (with_reducible first | exact HB.out | apply below_alloc | apply pw_below_drewN | apply below_drew1) | exact HB.out)⟩⟩
        · replace c15 := Bool.eq_false_iff.mpr c15
          subst c15
          have H1 : (customsref04_Cross.j0 k a1 a5 t265 t267 true) = some (r1, r2) := by rw [if_neg (show ¬ (false = true) by decide)] at H; exact H
          clear H
          have H := H1
          clear H1
          have H' := Aside0.mk H
          clear H
          go_wp2_with (first | ((with_reducible refine gate_callee (f := 30) rfl ?_); refine goesL_ (some 39) rfl rfl Try.func30 (by kernel_rfl) rfl #[.int .i64 a1] rfl (by (try simp only [List.map_toArray, List.map_cons, List.map_nil]); first | done | rfl | (simp only [List.length_drop, List.length_take]; rfl)) ?_; (with_reducible refine (customsref02_Amount.calls a1 false _ A14.out).mono ?_); rintro e w' ⟨rfl, ⟨nd, rfl⟩⟩; refine ⟨_, rfl, ?_⟩))
          go_meet
          case rel => exact ⟨_, (true), (by first | rfl | (simp; done) | (simp [*]; done)), H', ⟨by first | omega | exact Nat.le_refl _⟩, ⟨by repeat (first | (with_reducible first | exact HB.out | apply below_alloc | apply pw_below_drewN | apply below_drew1) | exact HB.out)⟩⟩
      case rest =>
        clear HC11
        try clear c1
        try clear c2
        try clear p2
        try clear c3
        try clear c8
        try clear c8b0
        try clear c8b1
        try clear c10
        try clear c10b0
        try clear c10b1
        try clear c15
        try clear c16
        try clear c16b0
        obtain ⟨kq, x48_10, rfl, HA, HJ10, HB⟩ := hcut
        cases kq with
        | zero => exact absurd HA.out (by simp [customsref04_Cross.j0])
        | succ kj10 =>
          have H := HA.out
          clear HA
          simp only [customsref04_Cross.j0] at H
          by_cases c17 : x48_10 = true
          · subst c17
            have H1 : (some (0, 2)) = some (r1, r2) := by rw [if_pos rfl] at H; exact H
            clear H
            have H := H1
            clear H1
            simp only [Option.some.injEq, Prod.mk.injEq] at H
            obtain ⟨rfl, rfl⟩ := H
            go_wp2
            go_ret2
            exact ⟨by first | rfl | (simp [errW_none, errW_some] <;> rfl) | (simp [*, errW_none, errW_some] <;> rfl) | (simp (disch := first | assumption | omega) only [Int.tdiv_eq_ediv_of_nonneg, Int.tmod_eq_emod_of_nonneg]; rfl), by repeat (first | (with_reducible first | exact HB.out | apply below_alloc | apply pw_below_drewN | apply below_drew1) | exact HB.out)⟩
          · replace c17 := Bool.eq_false_iff.mpr c17
            subst c17
            have H1 : ((customsref01_MulDiv.f kj10 (IntKind.u64.wrap (mx a1 (wrap64 (-a1)))) (IntKind.u64.wrap (t265)) (IntKind.u64.wrap (t267)) a5).bind fun bt270 => (if bt270.2 = 0 then (customsref04_Cross.j1 kj10 a1 bt270.1 (decide (bt270.1 > 1000000000000))) else (customsref04_Cross.j1 kj10 a1 bt270.1 true))) = some (r1, r2) := by rw [if_neg (show ¬ (false = true) by decide)] at H; exact H
            clear H
            have H := H1
            clear H1
            obtain ⟨ji18, hji18⟩ : ∃ j_ : Int, (mx a1 (wrap64 (-a1))) = j_ := ⟨_, rfl⟩
            replace H : ((customsref01_MulDiv.f kj10 (IntKind.u64.wrap (ji18)) (IntKind.u64.wrap (t265)) (IntKind.u64.wrap (t267)) a5).bind fun bt270 => (if bt270.2 = 0 then (customsref04_Cross.j1 kj10 a1 bt270.1 (decide (bt270.1 > 1000000000000))) else (customsref04_Cross.j1 kj10 a1 bt270.1 true))) = some (r1, r2) := by first | (rw [hji18] at H; exact H) | (simp only [hji18] at H ⊢; exact H)
            have hji18_ : (if a1 < (wrap64 (-a1)) then (wrap64 (-a1)) else a1) = ji18 := hji18
            replace H := Option.bind_eq_some_iff.mp H
            obtain ⟨⟨t270, t271⟩, A190, H⟩ := H
            replace H : (if t271 = 0 then (customsref04_Cross.j1 kj10 a1 t270 (decide (t270 > 1000000000000))) else (customsref04_Cross.j1 kj10 a1 t270 true)) = some (r1, r2) := H
            have A19 := Aside0.mk A190
            clear A190
            have HC20 := Aside0.mk H
            clear H
            go_upto_region 10 with (first | ((with_reducible refine gate_callee (f := 31) rfl ?_); refine goesL_ (some 60) rfl rfl Try.func31 (by kernel_rfl) rfl #[.int .u64 (IntKind.u64.wrap (ji18)), .int .u64 (IntKind.u64.wrap (t265)), .int .u64 (IntKind.u64.wrap (t267)), .int .i64 a5] rfl (by (try simp only [List.map_toArray, List.map_cons, List.map_nil]); first | done | (simp only [hji18]; rfl) | rfl | (simp only [List.length_drop, List.length_take]; rfl)) ?_; (with_reducible refine (customsref01_MulDiv.calls kj10 (IntKind.u64.wrap (ji18)) (IntKind.u64.wrap (t265)) (IntKind.u64.wrap (t267)) a5 t270 t271 _ A19.out).mono ?_); rintro e w21 ⟨rfl, hb⟩; refine ⟨_, rfl, ?_⟩; have n0_ := Aside0.mk (below_step (by repeat (first | (with_reducible first | exact HB.out | apply below_alloc | apply pw_below_drewN | apply below_drew1) | exact HB.out)) hb); clear HB; have HB := n0_; clear n0_; (try clear hb); (try clear hb2); (try clear hk); (try clear hi)))
            (try simp only [Act.put, List.setIfInBounds_toArray, List.set_cons_zero, List.set_cons_succ])
            go_cut [68] (fun v68 wc => ∃ (kq : Nat) (x68_19 : Bool), v68 = .bool x68_19 ∧ Aside0 (customsref04_Cross.j1 kq a1 t270 x68_19 = some (r1, r2)) ∧ Aside0 (kq ≤ kj10) ∧ Aside0 (Below w.heap.size w wc))
            case first =>
              have H := HC20.out
              clear HC20
              by_cases c22 : t271 = 0
              · rw [if_pos c22] at H
                have c22b0 : (t271 == 0) = true := beq_iff_eq.mpr c22
                have c22b1 : (t271 != 0) = false := bne_eq_false_iff_eq.mpr c22
                clear c22
                (first | rw [c22b0] | (simp only [i64_w, i32_w]; rw [c22b0]) | skip)
                have H' := Aside0.mk H
                clear H
                go_wp2
                go_meet
                case rel => exact ⟨_, (decide (t270 > 1000000000000)), (by first | rfl | (simp; done) | (simp [*]; done)), H', ⟨by have := HJ10.out; first | omega | exact Nat.le_refl _⟩, ⟨by repeat (first | (with_reducible first | exact HB.out | apply below_alloc | apply pw_below_drewN | apply below_drew1) | exact HB.out)⟩⟩
              · rw [if_neg c22] at H
                have c22b0 : (t271 == 0) = false := beq_eq_false_iff_ne.mpr c22
                have c22b1 : (t271 != 0) = true := bne_iff_ne.mpr c22
                (first | rw [c22b0] | (simp only [i64_w, i32_w]; rw [c22b0]) | skip)
                have H' := Aside0.mk H
                clear H
                go_wp2
                go_meet
                case rel => exact ⟨_, (true), (by first | rfl | (simp; done) | (simp [*]; done)), H', ⟨by have := HJ10.out; first | omega | exact Nat.le_refl _⟩, ⟨by repeat (first | (with_reducible first | exact HB.out | apply below_alloc | apply pw_below_drewN | apply below_drew1) | exact HB.out)⟩⟩
            case rest =>
              clear HC20
              try clear c1
              try clear c2
              try clear p2
              try clear c3
              try clear p6
              try clear c8
              try clear c8b0
              try clear c8b1
              try clear c10
              try clear c10b0
              try clear c10b1
              try clear c15
              try clear c16
              try clear c16b0
              try clear c17
              try clear c21
              try clear c22
              try clear c22b0
              try clear c22b1
              try clear p2
              obtain ⟨kq, x68_19, rfl, HA, HJ19, HB⟩ := hcut
              cases kq with
              | zero => exact absurd HA.out (by simp [customsref04_Cross.j1])
              | succ kj19 =>
                have H := HA.out
                clear HA
                simp only [customsref04_Cross.j1] at H
                by_cases c23 : x68_19 = true
                · subst c23
                  have H1 : (some (0, 3)) = some (r1, r2) := by rw [if_pos rfl] at H; exact H
                  clear H
                  have H := H1
                  clear H1
                  simp only [Option.some.injEq, Prod.mk.injEq] at H
                  obtain ⟨rfl, rfl⟩ := H
                  go_wp2
                  go_ret2
                  exact ⟨by first | rfl | (simp [errW_none, errW_some] <;> rfl) | (simp only [← hji18]; first | rfl | (simp [errW_none, errW_some] <;> rfl)) | (simp [*, errW_none, errW_some] <;> rfl) | (simp (disch := first | assumption | omega) only [Int.tdiv_eq_ediv_of_nonneg, Int.tmod_eq_emod_of_nonneg]; rfl), by repeat (first | (with_reducible first | exact HB.out | apply below_alloc | apply pw_below_drewN | apply below_drew1) | exact HB.out)⟩
                · replace c23 := Bool.eq_false_iff.mpr c23
                  subst c23
                  have H1 : (if a1 < 0 then (some (wrap64 (-(wrap64 (t270))), 0)) else (some (wrap64 (t270), 0))) = some (r1, r2) := by rw [if_neg (show ¬ (false = true) by decide)] at H; exact H
                  clear H
                  have H := H1
                  clear H1
                  by_cases c24 : a1 < 0
                  · rw [if_pos c24] at H
                    have c24b0 : decide (a1 < 0) = true := decide_eq_true c24
                    clear c24
                    simp only [Option.some.injEq, Prod.mk.injEq] at H
                    obtain ⟨rfl, rfl⟩ := H
                    go_wp2
                    go_ret2
                    exact ⟨by first | rfl | (simp [errW_none, errW_some] <;> rfl) | (simp only [← hji18]; first | rfl | (simp [errW_none, errW_some] <;> rfl)) | (simp [*, errW_none, errW_some] <;> rfl) | (simp (disch := first | assumption | omega) only [Int.tdiv_eq_ediv_of_nonneg, Int.tmod_eq_emod_of_nonneg]; rfl), by repeat (first | (with_reducible first | exact HB.out | apply below_alloc | apply pw_below_drewN | apply below_drew1) | exact HB.out)⟩
                  · rw [if_neg c24] at H
                    have c24b0 : decide (a1 < 0) = false := decide_eq_false c24
                    clear c24
                    simp only [Option.some.injEq, Prod.mk.injEq] at H
                    obtain ⟨rfl, rfl⟩ := H
                    go_wp2
                    go_ret2
                    exact ⟨by first | rfl | (simp [errW_none, errW_some] <;> rfl) | (simp only [← hji18]; first | rfl | (simp [errW_none, errW_some] <;> rfl)) | (simp [*, errW_none, errW_some] <;> rfl) | (simp (disch := first | assumption | omega) only [Int.tdiv_eq_ediv_of_nonneg, Int.tmod_eq_emod_of_nonneg]; rfl), by repeat (first | (with_reducible first | exact HB.out | apply below_alloc | apply pw_below_drewN | apply below_drew1) | exact HB.out)⟩
    · rw [if_neg c10] at H
      have c10b0 : (t268 == 0) = false := beq_eq_false_iff_ne.mpr c10
      have c10b1 : (t268 != 0) = true := bne_iff_ne.mpr c10
      simp only [Option.some.injEq, Prod.mk.injEq] at H
      obtain ⟨rfl, rfl⟩ := H
      go_enter Try.func21, Try.ntmps21
      go_wp2_with (first | ((with_reducible refine gate_callee (f := 17) rfl ?_); refine goesL_ (some 22) rfl rfl Try.func17 (by kernel_rfl) rfl #[.slice A0 l0.length c0, .string a2, .int .i64 a4] rfl (by (try simp only [List.map_toArray, List.map_cons, List.map_nil]); first | done | rfl | (simp only [List.length_drop, List.length_take]; rfl)) ?_; (with_reducible refine (customsref04_At.calls k _ _ l0 a2 a4 t265 t266 _ ?side1 ?side2 A7.out).mono ?_); (case side1 => repeat (first | exact HR0.out | (with_reducible refine Kd.C_alloc ?_ _) | (with_reducible refine Kd.C_drewN ?_ _) | (with_reducible refine Kd.C_drew ?_))); (case side2 => exact HC0.out); rintro e w25 ⟨rfl, hb⟩; refine ⟨_, rfl, ?_⟩; have n0_ := Aside0.mk (below_step (by repeat (first | (with_reducible first | exact HB.out | apply below_alloc | apply pw_below_drewN | apply below_drew1) | exact HB.out)) hb); clear HB; have HB := n0_; clear n0_; (try clear hb); (try clear hb2); (try clear hk); (try clear hi)) | ((with_reducible refine gate_callee (f := 17) rfl ?_); refine goesL_ (some 32) rfl rfl Try.func17 (by kernel_rfl) rfl #[.slice A0 l0.length c0, .string a3, .int .i64 a4] rfl (by (try simp only [List.map_toArray, List.map_cons, List.map_nil]); first | done | rfl | (simp only [List.length_drop, List.length_take]; rfl)) ?_; (with_reducible refine (customsref04_At.calls k _ _ l0 a3 a4 t267 t268 _ ?side1 ?side2 A9.out).mono ?_); (case side1 => repeat (first | exact (Kd.C_below HR0.out HB.out) | (with_reducible refine Kd.C_alloc ?_ _) | (with_reducible refine Kd.C_drewN ?_ _) | (with_reducible refine Kd.C_drew ?_))); (case side2 => exact HC0.out); rintro e w26 ⟨rfl, hb⟩; refine ⟨_, rfl, ?_⟩; have n0_ := Aside0.mk (below_step (by repeat (first | (with_reducible first | exact HB.out | apply below_alloc | apply pw_below_drewN | apply below_drew1) | exact HB.out)) hb); clear HB; have HB := n0_; clear n0_; (try clear hb); (try clear hb2); (try clear hk); (try clear hi)))
      go_ret2
      exact ⟨by first | rfl | (simp [errW_none, errW_some] <;> rfl) | (simp [*, errW_none, errW_some] <;> rfl) | (simp (disch := first | assumption | omega) only [Int.tdiv_eq_ediv_of_nonneg, Int.tmod_eq_emod_of_nonneg]; rfl), by repeat (first | (with_reducible first | exact HB.out | apply below_alloc | apply pw_below_drewN | apply below_drew1) | exact HB.out)⟩
  · rw [if_neg c8] at H
    have c8b0 : (t266 == 0) = false := beq_eq_false_iff_ne.mpr c8
    have c8b1 : (t266 != 0) = true := bne_iff_ne.mpr c8
    simp only [Option.some.injEq, Prod.mk.injEq] at H
    obtain ⟨rfl, rfl⟩ := H
    go_enter Try.func21, Try.ntmps21
    go_wp2_with (first | ((with_reducible refine gate_callee (f := 17) rfl ?_); refine goesL_ (some 22) rfl rfl Try.func17 (by kernel_rfl) rfl #[.slice A0 l0.length c0, .string a2, .int .i64 a4] rfl (by (try simp only [List.map_toArray, List.map_cons, List.map_nil]); first | done | rfl | (simp only [List.length_drop, List.length_take]; rfl)) ?_; (with_reducible refine (customsref04_At.calls k _ _ l0 a2 a4 t265 t266 _ ?side1 ?side2 A7.out).mono ?_); (case side1 => repeat (first | exact HR0.out | (with_reducible refine Kd.C_alloc ?_ _) | (with_reducible refine Kd.C_drewN ?_ _) | (with_reducible refine Kd.C_drew ?_))); (case side2 => exact HC0.out); rintro e w27 ⟨rfl, hb⟩; refine ⟨_, rfl, ?_⟩; have n0_ := Aside0.mk (below_step (by repeat (first | (with_reducible first | exact HB.out | apply below_alloc | apply pw_below_drewN | apply below_drew1) | exact HB.out)) hb); clear HB; have HB := n0_; clear n0_; (try clear hb); (try clear hb2); (try clear hk); (try clear hi)))
    go_ret2
    exact ⟨by first | rfl | (simp [errW_none, errW_some] <;> rfl) | (simp [*, errW_none, errW_some] <;> rfl) | (simp (disch := first | assumption | omega) only [Int.tdiv_eq_ediv_of_nonneg, Int.tmod_eq_emod_of_nonneg]; rfl), by repeat (first | (with_reducible first | exact HB.out | apply below_alloc | apply pw_below_drewN | apply below_drew1) | exact HB.out)⟩

end Go.Proofs.Ytpmdlhncfggjkaa.PX
end
section
namespace Go.Proofs.Ytpmdlhncfggjkaa.PX
open Go.RowKit Go.Proofs.YtpmdlhncfggjkaaW.PrintWords Go.Proofs.YtpmdlhncfggjkaaW.PrintLast Go.Proofs.YtpmdlhncfggjkaaW.PrintMore
attribute [local go_sem] max2_int min2_int max_two min_two max_three min_three max_four min_four   -- for this text's walks alone
set_option linter.unusedVariables false
set_option linter.unusedSimpArgs false

/-! ### customsref04_Convert: function 19 -/
def customsref04_Convert.f (k : Nat) (l0 : List (S25)) (a1 : Int) (a2 : ByteArray) (a3 : Int) (a4 : Int) : Option (Int × Int) := (customsref04_Cross.f k l0 a1 a2 (⟨#[69, 85, 82]⟩ : ByteArray) a3 a4).bind fun bt272 => (some (bt272.1, bt272.2))
set_option maxHeartbeats 8000000 in
set_option maxRecDepth 100000 in
theorem customsref04_Convert.calls (k : Nat) (A0 : Option Addr) (c0 : Nat) (l0 : List (S25)) (a1 : Int) (a2 : ByteArray) (a3 : Int) (a4 : Int) (r1 : Int) (r2 : Int) (w : World) (hr0 : Kd.C k25 w A0 l0.length l0) (hc0 : l0.length ≤ c0) (h : customsref04_Convert.f k l0 a1 a2 a3 a4 = some (r1, r2)) :
    Calls Try.prog 19 #[.slice A0 l0.length c0, .int .i64 a1, .string a2, .int .i64 a3, .int .i64 a4] w fun e w' => e = .returned (.tuple #[.int .i64 r1, .int .i64 r2]) ∧ Below w.heap.size w w' := by
  have HR0 := Aside0.mk hr0
  have HC0 := Aside0.mk hc0
  clear hr0 hc0
  have HB := Aside0.mk (Below.refl w.heap.size w)
  have H : ((customsref04_Cross.f k l0 a1 a2 (⟨#[69, 85, 82]⟩ : ByteArray) a3 a4).bind fun bt272 => (some (bt272.1, bt272.2))) = some (r1, r2) := h
  clear h
  replace H := Option.bind_eq_some_iff.mp H
  obtain ⟨⟨t272, t273⟩, A60, H⟩ := H
  replace H : (some (t272, t273)) = some (r1, r2) := H
  have A6 := Aside0.mk A60
  clear A60
  simp only [Option.some.injEq, Prod.mk.injEq] at H
  obtain ⟨rfl, rfl⟩ := H
  go_enter Try.func19, Try.ntmps19
  go_wp2_with (first | ((with_reducible refine gate_callee (f := 21) rfl ?_); refine goesL_ (some 17) rfl rfl Try.func21 (by kernel_rfl) rfl #[.slice A0 l0.length c0, .int .i64 a1, .string a2, .string (⟨#[69, 85, 82]⟩ : ByteArray), .int .i64 a3, .int .i64 a4] rfl (by (try simp only [List.map_toArray, List.map_cons, List.map_nil]); first | done | rfl | (simp only [List.length_drop, List.length_take]; rfl)) ?_; (with_reducible refine (customsref04_Cross.calls k _ _ l0 a1 a2 (⟨#[69, 85, 82]⟩ : ByteArray) a3 a4 t272 t273 _ ?side1 ?side2 A6.out).mono ?_); (case side1 => repeat (first | exact HR0.out | (with_reducible refine Kd.C_alloc ?_ _) | (with_reducible refine Kd.C_drewN ?_ _) | (with_reducible refine Kd.C_drew ?_))); (case side2 => exact HC0.out); rintro e w7 ⟨rfl, hb⟩; refine ⟨_, rfl, ?_⟩; have n0_ := Aside0.mk (below_step (by repeat (first | (with_reducible first | exact HB.out | apply below_alloc | apply pw_below_drewN | apply below_drew1) | exact HB.out)) hb); clear HB; have HB := n0_; clear n0_; (try clear hb); (try clear hb2); (try clear hk); (try clear hi)))
  go_ret2
  exact ⟨by first | rfl | (simp [errW_none, errW_some] <;> rfl) | (simp [*, errW_none, errW_some] <;> rfl) | (simp (disch := first | assumption | omega) only [Int.tdiv_eq_ediv_of_nonneg, Int.tmod_eq_emod_of_nonneg]; rfl), by repeat (first | (with_reducible first | exact HB.out | apply below_alloc | apply pw_below_drewN | apply below_drew1) | exact HB.out)⟩

end Go.Proofs.Ytpmdlhncfggjkaa.PX
end
section
namespace Go.Proofs.Ytpmdlhncfggjkaa.PX
open Go.RowKit Go.Proofs.YtpmdlhncfggjkaaW.PrintWords Go.Proofs.YtpmdlhncfggjkaaW.PrintLast Go.Proofs.YtpmdlhncfggjkaaW.PrintMore
set_option linter.unusedVariables false
set_option linter.unusedSimpArgs false

def inAmt (x : Int) : Bool := decide (-1000000000000 ≤ x) && decide (x ≤ 1000000000000)
theorem amounts_l0 (l : List Int) (hl : l.length ≤ 1000000) (n : Nat) : ∀ i : Nat, i + n = l.length → Ev (fun k => money_amounts.l0 k l (l.length : Int) i) ((l.drop i).all inAmt) := by
  induction n with
  | zero =>
    intro i hi
    refine Ev.up ?_
    simp only [money_amounts.l0]
    rw [List.drop_of_length_le (by omega)]
    exact Ev.neg (by omega) (Ev.now _)
  | succ n ih =>
    intro i hi
    refine Ev.up ?_
    simp only [money_amounts.l0]
    have e : l.drop i = rd l i :: l.drop (i + 1) := by
      rw [List.drop_eq_getElem_cons (by omega)]
      simp [rd, List.getD, show i < l.length by omega]
    rw [e, List.all_cons]
    refine Ev.pos (by omega) (Ev.pos (by omega) (Ev.pos (by omega) ?_))
    unfold inAmt
    by_cases c : rd l i < -1000000000000
    · rw [decide_eq_false (by omega)]; exact Ev.pos c (Ev.now _)
    refine Ev.neg c ?_
    by_cases d : rd l i > 1000000000000
    · rw [decide_eq_false (p := rd l i ≤ 1000000000000) (by omega), Bool.and_false]; exact Ev.pos d (Ev.now _)
    refine Ev.neg d ?_
    rw [decide_eq_true (by omega), decide_eq_true (by omega), wrap64_of (by omega) (by omega)]
    exact ih (i + 1) (by omega)
theorem amounts_ev (l : List Int) (hl : l.length ≤ 1000000) : Ev (fun k => money_amounts.f k l) (l.all inAmt) := by
  have := amounts_l0 l hl l.length 0 (by omega)
  exact this
def iabs (x : Int) : Int := if x < 0 then -x else x
theorem iabs_mx {x : Int} (h : -1000000000000 ≤ x ∧ x ≤ 1000000000000) : mx x (wrap64 (-x)) = iabs x := by
  rw [wrap64_of (by omega) (by omega)]
  unfold mx iabs; split <;> split <;> omega
/- P5.3: the converted amount, and the error -/
def signed (a : Int) (d : Int × Int) : Int × Int := if d.2 = 0 ∧ d.1 ≤ 1000000000000 then (if a < 0 then -d.1 else d.1, 0) else (0, 3)
def scaleS (a p q m : Int) : Int × Int := if a < -1000000000000 ∨ 1000000000000 < a ∨ m < 0 ∨ 3 < m then (0, 2) else signed a (divS (iabs a * p) q m)
theorem divS_pos {W c m : Int} (hW : 0 ≤ W) (hc : 0 < c) : 0 ≤ (divS W c m).1 := by
  have : 0 ≤ W / c := Int.ediv_nonneg hW (by omega)
  have h2 : 0 ≤ rdiv W c m := by unfold rdiv; split <;> omega
  unfold divS
  split
  · decide
  · split
    · decide
    · exact h2
theorem scale_ev (a p q m : Int) (hp : 1 ≤ p ∧ p ≤ 1000000000) (hq : 1 ≤ q ∧ q ≤ 1000000000) : Ev (fun k => money_Scale.f k a p q m) (scaleS a p q m) := by
  unfold money_Scale.f
  refine Ev.bind (amounts_ev [a, p, q] (by simp)) ?_
  have hamt : ([a, p, q] : List Int).all inAmt = inAmt a := by
    simp only [List.all_cons, List.all_nil, Bool.and_true]
    rw [show inAmt p = true by unfold inAmt; rw [decide_eq_true (by omega), decide_eq_true (by omega)]; rfl, show inAmt q = true by unfold inAmt; rw [decide_eq_true (by omega), decide_eq_true (by omega)]; rfl]
    simp
  rw [hamt]
  have bad : ∀ s : Int × Int, s = (0, 2) → Ev (fun k => money_Scale.j0 k a p q m true) s := fun s e => e ▸ by
    refine Ev.up ?_
    simp only [money_Scale.j0, if_true]
    exact Ev.now _
  by_cases c0 : -1000000000000 ≤ a ∧ a ≤ 1000000000000
  case neg =>
    rw [show inAmt a = false by unfold inAmt; rw [Bool.eq_false_iff]; simp only [ne_eq, Bool.and_eq_true, decide_eq_true_eq]; exact c0]
    exact Ev.neg (by decide) (bad _ (by unfold scaleS; exact if_pos (by omega)))
  rw [show inAmt a = true by unfold inAmt; rw [decide_eq_true c0.1, decide_eq_true c0.2]; rfl]
  refine Ev.pos rfl (Ev.neg (by omega) (Ev.neg (by omega) ?_))
  by_cases c1 : m < 0
  · exact Ev.pos c1 (bad _ (by unfold scaleS; exact if_pos (by omega)))
  refine Ev.neg c1 ?_
  by_cases c2 : m > 3
  · rw [decide_eq_true c2]; exact bad _ (by unfold scaleS; exact if_pos (by omega))
  rw [decide_eq_false c2]
  have e : scaleS a p q m = signed a (divS (iabs a * p) q m) := by unfold scaleS; exact if_neg (by omega)
  rw [e]
  refine Ev.up ?_
  simp only [money_Scale.j0, Bool.false_eq_true, if_false]
  have ha : 0 ≤ iabs a ∧ iabs a ≤ 1000000000000 := by unfold iabs; split <;> omega
  rw [iabs_mx c0, w64_in ha.1 (by omega), w64_in (by omega) (by omega), w64_in (by omega) (by omega)]
  refine Ev.bind (exactMulDiv_ev _ _ _ m ⟨ha.1, by omega⟩ ⟨by omega, by omega⟩ ⟨by omega, by omega⟩) ?_
  have hpos := divS_pos (m := m) (Int.mul_nonneg ha.1 (show 0 ≤ p by omega)) (show 0 < q by omega)
  generalize divS (iabs a * p) q m = d at hpos
  obtain ⟨d1, d2⟩ := d
  simp only [] at hpos
  unfold signed
  simp only []
  by_cases c3 : d2 = 0
  · refine Ev.pos c3 (Ev.up ?_)
    simp only [money_Scale.j1]
    by_cases c4 : d1 > 1000000000000
    · rw [decide_eq_true c4]
      exact Ev.as (Ev.pos rfl (Ev.now _)) (if_neg (by omega)).symm
    · rw [decide_eq_false c4, wrap64_of (x := d1) (by omega) (by omega), wrap64_of (x := -d1) (by omega) (by omega)]
      refine Ev.as (Ev.neg (by decide) ?_) (if_pos ⟨c3, by omega⟩).symm
      by_cases c5 : a < 0
      · exact Ev.as (Ev.pos c5 (Ev.now _)) (by rw [if_pos c5])
      · exact Ev.as (Ev.neg c5 (Ev.now _)) (by rw [if_neg c5])
  · refine Ev.neg c3 (Ev.up ?_)
    simp only [money_Scale.j1]
    exact Ev.as (Ev.pos trivial (Ev.now _)) (if_neg (by omega)).symm
theorem at_rate {t : List S25} {cur : ByteArray} {day : Int} (h : (atS t cur day).2 = 0) : 1 ≤ (atS t cur day).1 ∧ (atS t cur day).1 ≤ 1000000000 := by
  unfold atS at h ⊢
  by_cases c : tabErr t = 0
  · rw [if_pos c] at h ⊢
    by_cases d : day < 0 ∨ 36524 < day
    · rw [if_pos d] at h; exact absurd h (by decide)
    · rw [if_neg d] at h ⊢
      have := rate_pos c cur day t.length (Nat.le_refl _)
      rw [List.take_length] at this
      cases hr : rateOf t cur day with
      | none => rw [hr] at h; exact absurd h (by decide)
      | some v => exact this v hr
  · rw [if_neg c] at h; exact absurd h c
def crossS (t : List S25) (a : Int) (x y : ByteArray) (day m : Int) : Int × Int :=
  if (atS t x day).2 = 0 then (if (atS t y day).2 = 0 then scaleS a (atS t x day).1 (atS t y day).1 m else (0, (atS t y day).2)) else (0, (atS t x day).2)
theorem cross_ev (t : List S25) (a : Int) (x y : ByteArray) (day m : Int) (hx : x.size ≤ 140737488355327) (hy : y.size ≤ 140737488355327) : Ev (fun k => currency_Cross.f k t a x y day m) (crossS t a x y day m) := by
  unfold currency_Cross.f crossS
  refine Ev.bind (at_ev t x day hx) ?_
  by_cases c : (atS t x day).2 = 0
  · rw [if_pos c]
    refine Ev.pos c (Ev.bind (at_ev t y day hy) ?_)
    by_cases d : (atS t y day).2 = 0
    · rw [if_pos d]
      refine Ev.pos d (Ev.as (Ev.bind (scale_ev a _ _ m (at_rate c) (at_rate d)) (Ev.now _)) rfl)
    · rw [if_neg d]; exact Ev.neg d (Ev.now _)
  · rw [if_neg c]; exact Ev.neg c (Ev.now _)
theorem convert_ev (t : List S25) (a : Int) (x : ByteArray) (day m : Int) (hx : x.size ≤ 140737488355327) : Ev (fun k => currency_Convert.f k t a x day m) (crossS t a x ⟨#[69, 85, 82]⟩ day m) := by
  unfold currency_Convert.f
  exact Ev.as (Ev.bind (cross_ev t a x ⟨#[69, 85, 82]⟩ day m hx (by decide)) (Ev.now _)) rfl
theorem awake_ev : Ev (fun k => customslaw05_awake.f k) true := by
  unfold customslaw05_awake.f customslaw05_fixed.f
  simp only [Option.bind_some]
  refine Ev.bind (convert_ev _ 1000 ⟨#[85, 83, 68]⟩ 9 0 (by decide)) ?_
  refine Ev.bind (convert_ev _ 1000 ⟨#[85, 83, 68]⟩ 10 0 (by decide)) ?_
  refine Ev.bind (at_ev _ ⟨#[67, 72, 70]⟩ 10 (by decide)) ?_
  exact Ev.cst (by decide +kernel)
end Go.Proofs.Ytpmdlhncfggjkaa.PX
end
section
namespace Go.Proofs.Ytpmdlhncfggjkaa.PX
open Go.RowKit Go.Proofs.YtpmdlhncfggjkaaW.PrintWords Go.Proofs.YtpmdlhncfggjkaaW.PrintLast Go.Proofs.YtpmdlhncfggjkaaW.PrintMore
attribute [local go_sem] max2_int min2_int max_two min_two max_three min_three max_four min_four   -- for this text's walks alone
set_option linter.unusedVariables false
set_option linter.unusedSimpArgs false

/-! ### customsmade_Currency: function 16 -/
def customsmade_Currency.f (a0 : Int) : Option (ByteArray) := (some (([(⟨#[67, 72, 70]⟩ : ByteArray), (⟨#[71, 66, 80]⟩ : ByteArray), (⟨#[85, 83, 68]⟩ : ByteArray), (⟨#[69, 85, 82]⟩ : ByteArray), (⟨#[88, 88, 88]⟩ : ByteArray)] : List ByteArray) : List ByteArray)).bind fun y198 => ((customsmade_Within.f a0 5).bind fun t201 => (if 0 ≤ t201 then (if t201 < (y198.length : Int) then (some (rdOf ByteArray.empty y198 t201)) else (none)) else (none)))
set_option maxHeartbeats 8000000 in
set_option maxRecDepth 100000 in
theorem customsmade_Currency.calls (a0 : Int) (r : ByteArray) (w : World) (h : customsmade_Currency.f a0 = some r) :
    Calls Try.prog 16 #[.int .i64 a0] w fun e w' => e = .returned (.string r) ∧ Below w.heap.size w w' := by
  have HB := Aside0.mk (Below.refl w.heap.size w)
  have H : ((some (([(⟨#[67, 72, 70]⟩ : ByteArray), (⟨#[71, 66, 80]⟩ : ByteArray), (⟨#[85, 83, 68]⟩ : ByteArray), (⟨#[69, 85, 82]⟩ : ByteArray), (⟨#[88, 88, 88]⟩ : ByteArray)] : List ByteArray) : List ByteArray)).bind fun y198 => ((customsmade_Within.f a0 5).bind fun t201 => (if 0 ≤ t201 then (if t201 < (y198.length : Int) then (some (rdOf ByteArray.empty y198 t201)) else (none)) else (none)))) = some r := h
  clear h
  obtain ⟨y198, hy198⟩ : ∃ y_ : List ByteArray, y_ = (([(⟨#[67, 72, 70]⟩ : ByteArray), (⟨#[71, 66, 80]⟩ : ByteArray), (⟨#[85, 83, 68]⟩ : ByteArray), (⟨#[69, 85, 82]⟩ : ByteArray), (⟨#[88, 88, 88]⟩ : ByteArray)] : List ByteArray)) := ⟨_, rfl⟩
  replace H : ((customsmade_Within.f a0 5).bind fun t201 => (if 0 ≤ t201 then (if t201 < (y198.length : Int) then (some (rdOf ByteArray.empty y198 t201)) else (none)) else (none))) = some r := by first | (rw [hy198]; with_reducible exact H) | (have H2_ := (Option.bind_some _ _).symm.trans H; rw [hy198]; with_reducible exact H2_) | (have H2_ := (Option.bind_some _ _).symm.trans H; with_reducible exact H2_) | with_reducible exact H | (rw [hy198]; exact H) | exact H
  have Ny198 := Aside0.mk hy198
  clear hy198
  replace H := Option.bind_eq_some_iff.mp H
  obtain ⟨t201, A20, H⟩ := H
  replace H : (if 0 ≤ t201 then (if t201 < (y198.length : Int) then (some (rdOf ByteArray.empty y198 t201)) else (none)) else (none)) = some r := H
  have A2 := Aside0.mk A20
  clear A20
  by_cases c3 : 0 ≤ t201
  · rw [if_pos c3] at H
    have c3b0 : decide (0 ≤ t201) = true := decide_eq_true c3
    clear c3
    by_cases c4 : t201 < (y198.length : Int)
    · rw [if_pos c4] at H
      have c4b0 : decide (t201 < (y198.length : Int)) = true := decide_eq_true c4
      clear c4
      obtain rfl := Option.some.inj H
      go_enter Try.func16, Try.ntmps16
      go_wp2_with (first | ((with_reducible refine gate_dst (N := 3) rfl ?_); refine Kd.R_lit Kd.string _ 9 ?hg (N := 3) ?hd (xs := ([(⟨#[67, 72, 70]⟩ : ByteArray), (⟨#[71, 66, 80]⟩ : ByteArray), (⟨#[85, 83, 68]⟩ : ByteArray), (⟨#[69, 85, 82]⟩ : ByteArray), (⟨#[88, 88, 88]⟩ : ByteArray)] : List ByteArray)) (inner := [.string (⟨#[67, 72, 70]⟩ : ByteArray), .string (⟨#[71, 66, 80]⟩ : ByteArray), .string (⟨#[85, 83, 68]⟩ : ByteArray), .string (⟨#[69, 85, 82]⟩ : ByteArray), .string (⟨#[88, 88, 88]⟩ : ByteArray)]) (ok := fun _ => True) (okp := fun _ => True) ?hr ?hp (fun _ hk => hk) trivial (Below.refl _ _) (Nat.le_refl _) (by simp) ?_; (case hd => rfl); (case hg => rfl); (case hr => first | (go_simp; done) | (go_simp; rfl)); (case hp => exact (Reps.one (show Kd.M Kd.string _ _ _ (⟨#[67, 72, 70]⟩ : ByteArray) [.string (⟨#[67, 72, 70]⟩ : ByteArray)] from rfl) (Reps.one (show Kd.M Kd.string _ _ _ (⟨#[71, 66, 80]⟩ : ByteArray) [.string (⟨#[71, 66, 80]⟩ : ByteArray)] from rfl) (Reps.one (show Kd.M Kd.string _ _ _ (⟨#[85, 83, 68]⟩ : ByteArray) [.string (⟨#[85, 83, 68]⟩ : ByteArray)] from rfl) (Reps.one (show Kd.M Kd.string _ _ _ (⟨#[69, 85, 82]⟩ : ByteArray) [.string (⟨#[69, 85, 82]⟩ : ByteArray)] from rfl) (Reps.one (show Kd.M Kd.string _ _ _ (⟨#[88, 88, 88]⟩ : ByteArray) [.string (⟨#[88, 88, 88]⟩ : ByteArray)] from rfl) (Reps.none _ _))))))); intro v199 w5 ho6 hb hg_ hnew_; clear hg_ hnew_; (first | rw [← Ny198.out] at ho6 | (simp only [Int.reduceToNat] at ho6; rw [← Ny198.out] at ho6)); have n0_ := Aside0.mk (Kd.R_lower ho6 (below_size (by repeat (first | (with_reducible first | exact HB.out | apply below_alloc | apply pw_below_drewN | apply below_drew1) | exact HB.out)))); have n1_ := Aside0.mk (below_step (by repeat (first | (with_reducible first | exact HB.out | apply below_alloc | apply pw_below_drewN | apply below_drew1) | exact HB.out)) hb); clear HB; have HO200 := n0_; have HB := n1_; clear n0_ n1_; clear hb ho6) | ((with_reducible refine gate_callee (f := 13) rfl ?_); refine goesL_ (some 5) rfl rfl Try.func13 (by kernel_rfl) rfl #[.int .i64 a0, .int .i64 5] rfl (by (try simp only [List.map_toArray, List.map_cons, List.map_nil]); first | done | rfl | (simp only [List.length_drop, List.length_take]; rfl)) ?_; (with_reducible refine (customsmade_Within.calls a0 5 t201 _ A2.out).mono ?_); rintro e w' ⟨rfl, ⟨nd, rfl⟩⟩; refine ⟨_, rfl, ?_⟩; obtain ⟨Ao7, co7, eo7⟩ := Kd.R_slice HO200.out; subst eo7; have p202 : 0 ≤ (t201 : Int) := of_decide_eq_true (by first | (with_reducible assumption) | assumption); have q202 : t201 < (y198.length : Int) := of_decide_eq_true (by first | (with_reducible assumption) | assumption); obtain ⟨ad202, e202, hx202_0⟩ := Kd.at_string (Kd.R_reads' HO200.out).2.2 t201 p202 q202; cases e202; replace p202 := eq_true p202; replace q202 := eq_true q202))
      go_ret
      exact ⟨by first | rfl | (simp [errW_none, errW_some] <;> rfl) | (simp [*, errW_none, errW_some] <;> rfl) | (simp (disch := first | assumption | omega) only [Int.tdiv_eq_ediv_of_nonneg, Int.tmod_eq_emod_of_nonneg]; rfl), by repeat (first | (with_reducible first | exact HB.out | apply below_alloc | apply pw_below_drewN | apply below_drew1) | exact HB.out)⟩
    · rw [if_neg c4] at H
      exact absurd H (by simp)
  · rw [if_neg c3] at H
    exact absurd H (by simp)

end Go.Proofs.Ytpmdlhncfggjkaa.PX
end
