/- Written by a program of this session (a changed printer): plain Lean functions with the answers of Go functions of this seat, each with a proof that the machine's call comes to them. -/
import Derived.Test.YtcoininpcicgmaaPX0
import Derived.Test.YtcoininpcicgmaaPXcustomsref01Add
namespace Go.Proofs.Ytcoininpcicgmaa.PX
open Go.RowKit Go.Proofs.YtcoininpcicgmaaW.PrintWords Go.Proofs.YtcoininpcicgmaaW.PrintLast Go.Proofs.YtcoininpcicgmaaW.PrintMore
attribute [local go_sem] max2_int min2_int max_two min_two max_three min_three max_four min_four   -- for this text's walks alone
set_option linter.unusedVariables false
set_option linter.unusedSimpArgs false

/-! ### customsref01_DivMod: function 33 -/
def customsref01_DivMod.l0 : Nat → Int → Int → Int → Int → Int → Int → Int → Option (Int × Int × Int)
  | 0, _, _, _, _, _, _, _ => none
  | k + 1, x1, x7, x8, x112000, x112001, x114000, x114001 => if x8 ≥ 0 then (if 0 ≤ (Go.bits .and .i64 x8 63) then (if x8 > 63 then (if 0 ≤ (wrap64 (x8 - 64)) then ((customsref01_Add.f x114000 x114001 x114000 x114001).bind fun bt114 => (if (x7 / 9223372036854775808) = 1 then (customsref01_DivMod.l0 k x1 (IntKind.u64.wrap ((Go.bits .or .u64 (IntKind.u64.wrap (x7 * 2)) (Go.bits .and .u64 (shr .u64 x112000 (wrap64 (x8 - 64))) 1)) - x1)) (wrap64 (x8 - 1)) x112000 x112001 bt114.1 (Go.bits .or .u64 bt114.2.1 1)) else (if (Go.bits .or .u64 (IntKind.u64.wrap (x7 * 2)) (Go.bits .and .u64 (shr .u64 x112000 (wrap64 (x8 - 64))) 1)) ≥ x1 then (customsref01_DivMod.l0 k x1 (IntKind.u64.wrap ((Go.bits .or .u64 (IntKind.u64.wrap (x7 * 2)) (Go.bits .and .u64 (shr .u64 x112000 (wrap64 (x8 - 64))) 1)) - x1)) (wrap64 (x8 - 1)) x112000 x112001 bt114.1 (Go.bits .or .u64 bt114.2.1 1)) else (customsref01_DivMod.l0 k x1 (Go.bits .or .u64 (IntKind.u64.wrap (x7 * 2)) (Go.bits .and .u64 (shr .u64 x112000 (wrap64 (x8 - 64))) 1)) (wrap64 (x8 - 1)) x112000 x112001 bt114.1 bt114.2.1)))) else (none)) else ((customsref01_Add.f x114000 x114001 x114000 x114001).bind fun bt117 => (if (x7 / 9223372036854775808) = 1 then (customsref01_DivMod.l0 k x1 (IntKind.u64.wrap ((Go.bits .or .u64 (IntKind.u64.wrap (x7 * 2)) (Go.bits .and .u64 (shr .u64 x112001 (Go.bits .and .i64 x8 63)) 1)) - x1)) (wrap64 (x8 - 1)) x112000 x112001 bt117.1 (Go.bits .or .u64 bt117.2.1 1)) else (if (Go.bits .or .u64 (IntKind.u64.wrap (x7 * 2)) (Go.bits .and .u64 (shr .u64 x112001 (Go.bits .and .i64 x8 63)) 1)) ≥ x1 then (customsref01_DivMod.l0 k x1 (IntKind.u64.wrap ((Go.bits .or .u64 (IntKind.u64.wrap (x7 * 2)) (Go.bits .and .u64 (shr .u64 x112001 (Go.bits .and .i64 x8 63)) 1)) - x1)) (wrap64 (x8 - 1)) x112000 x112001 bt117.1 (Go.bits .or .u64 bt117.2.1 1)) else (customsref01_DivMod.l0 k x1 (Go.bits .or .u64 (IntKind.u64.wrap (x7 * 2)) (Go.bits .and .u64 (shr .u64 x112001 (Go.bits .and .i64 x8 63)) 1)) (wrap64 (x8 - 1)) x112000 x112001 bt117.1 bt117.2.1))))) else (none)) else (some (x114000, x114001, x7))
def customsref01_DivMod.f (k : Nat) (a0_0 : Int) (a0_1 : Int) (a1 : Int) : Option (Int × Int × Int) := customsref01_DivMod.l0 k a1 0 127 a0_0 a0_1 0 0
theorem customsref01_DivMod.mono_l : ∀ k, (∀ y0 y1 y2 y3 y4 y5 y6, LeO (customsref01_DivMod.l0 k y0 y1 y2 y3 y4 y5 y6) (customsref01_DivMod.l0 (k + 1) y0 y1 y2 y3 y4 y5 y6))
  | 0 => fun _ _ _ _ _ _ _ r h => by simp [customsref01_DivMod.l0] at h
  | k + 1 => by
    have ih0 := customsref01_DivMod.mono_l k
    · intro y0 y1 y2 y3 y4 y5 y6
      unfold customsref01_DivMod.l0
      repeat' first
      | (with_reducible exact ih0 _ _ _ _ _ _ _)
      | (with_reducible exact LeO.refl _)
      | (with_reducible exact LeO.none _)
      | (with_reducible refine LeO.ite ?_ ?_)
      | (with_reducible refine LeO.bind ?_ (fun _ => ?_))
      | exact ih0 _ _ _ _ _ _ _
      | exact LeO.none _
      | refine LeO.ite ?_ ?_
      | refine LeO.bind ?_ (fun _ => ?_)
theorem customsref01_DivMod.mono : ∀ a0 a1 a2 k, LeO (customsref01_DivMod.f k a0 a1 a2) (customsref01_DivMod.f (k + 1) a0 a1 a2) := by
  intro a0 a1 a2 k
  have ih0 := customsref01_DivMod.mono_l k
  unfold customsref01_DivMod.f
  repeat' first
      | (with_reducible exact ih0 _ _ _ _ _ _ _)
      | (with_reducible exact LeO.refl _)
      | (with_reducible exact LeO.none _)
      | (with_reducible refine LeO.ite ?_ ?_)
      | (with_reducible refine LeO.bind ?_ (fun _ => ?_))
      | exact ih0 _ _ _ _ _ _ _
      | exact LeO.none _
      | refine LeO.ite ?_ ?_
      | refine LeO.bind ?_ (fun _ => ?_)
set_option maxHeartbeats 8000000 in
set_option maxRecDepth 100000 in
theorem customsref01_DivMod.calls (k : Nat) (a0_0 : Int) (a0_1 : Int) (a1 : Int) (r1 : Int) (r2 : Int) (r3 : Int) (w : World) (h : customsref01_DivMod.f k a0_0 a0_1 a1 = some (r1, r2, r3)) :
    Calls Try.prog 33 #[.agg #[.int .u64 a0_0, .int .u64 a0_1], .int .u64 a1] w fun e w' => e = .returned (.tuple #[.agg #[.int .u64 r1, .int .u64 r2], .int .u64 r3]) ∧ Below w.heap.size w w' := by
  have hu30 := Try.underlying30
  have HB := Aside0.mk (Below.refl w.heap.size w)
  have H : (customsref01_DivMod.l0 k a1 0 127 a0_0 a0_1 0 0) = some (r1, r2, r3) := h
  clear h
  have H' := Aside0.mk H
  clear H
  go_enter Try.func33, Try.ntmps33
  go_wp2_with (first | ((with_reducible refine gate_dst (N := 2) rfl ?_); refine box_event ?hg (N := 2) ?hd (cs := #[.int .u64 a0_0, .int .u64 a0_1]) (t := 30) ?hr ?_; (case hd => rfl); (case hg => rfl); (case hr => first | (go_simp; done) | (go_simp; rfl)); intro gb111 hg w3 hbox hb; have n0_ := Aside0.mk (below_step (by repeat (first | (with_reducible first | exact HB.out | apply below_alloc | apply pw_below_drewN | apply below_drew1) | exact HB.out)) hb); have n1_ := Aside0.mk (hbox); have n2_ := Aside0.mk ((by rw [hg]; exact (below_size (by repeat (first | (with_reducible first | exact HB.out | apply below_alloc | apply pw_below_drewN | apply below_drew1) | exact HB.out))) : w.heap.size ≤ gb111)); have n3_ := Aside0.mk ((by rw [hg]; exact (below_size (by repeat (first | (with_reducible first | exact HB.out | apply below_alloc | apply pw_below_drewN | apply below_drew1) | exact HB.out))) : w.heap.size ≤ gb111)); clear HB; have HB := n0_; have BK111 := n1_; have GW111 := n2_; have GE111 := n3_; clear n0_ n1_ n2_ n3_; clear hb hbox hg) | ((with_reducible refine gate_dst (N := 4) rfl ?_); refine box_event ?hg (N := 4) ?hd (cs := #[.int .u64 0, .int .u64 0]) (t := 30) ?hr ?_; (case hd => rfl); (case hg => rfl); (case hr => first | (go_simp; done) | (go_simp; rfl)); intro gb112 hg w4 hbox hb; have n0_ := Aside0.mk (blk_below (g := gb111) (o := .cells #[.int .u64 a0_0, .int .u64 a0_1] 30 (0, 0)) (by (with_reducible repeat (first | refine blk_drewN ?_ _ | refine blk_drew ?_ | refine blk_alloc ?_ _)); exact BK111.out) hb); have n1_ := Aside0.mk (below_step (by repeat (first | (with_reducible first | exact HB.out | apply below_alloc | apply pw_below_drewN | apply below_drew1 | refine below_set ?_ GE111.out) | exact HB.out)) hb); have n2_ := Aside0.mk (hbox); have n3_ := Aside0.mk ((by rw [hg]; exact (below_size (by repeat (first | (with_reducible first | exact HB.out | apply below_alloc | apply pw_below_drewN | apply below_drew1 | refine below_set ?_ GE111.out) | exact HB.out))) : w.heap.size ≤ gb112)); have n4_ := Aside0.mk ((by rw [hg]; exact (below_size (by repeat (first | (with_reducible first | exact HB.out | apply below_alloc | apply pw_below_drewN | apply below_drew1 | refine below_set ?_ GE111.out) | exact HB.out))) : w.heap.size ≤ gb112)); have n5_ := Aside0.mk ((by rw [hg]; exact Nat.ne_of_lt (blk_lt (g := gb111) (o := .cells #[.int .u64 a0_0, .int .u64 a0_1] 30 (0, 0)) (by (with_reducible repeat (first | refine blk_drewN ?_ _ | refine blk_drew ?_ | refine blk_alloc ?_ _)); exact BK111.out)) : gb111 ≠ gb112)); have n6_ := Aside0.mk ((by rw [hg]; exact Nat.ne_of_gt (blk_lt (g := gb111) (o := .cells #[.int .u64 a0_0, .int .u64 a0_1] 30 (0, 0)) (by (with_reducible repeat (first | refine blk_drewN ?_ _ | refine blk_drew ?_ | refine blk_alloc ?_ _)); exact BK111.out)) : gb112 ≠ gb111)); clear BK111; clear HB; have BK111 := n0_; have HB := n1_; have BK112 := n2_; have GW112 := n3_; have GE112 := n4_; have NB111_112 := n5_; have NB112_111 := n6_; clear n0_ n1_ n2_ n3_ n4_ n5_ n6_; clear hb hbox hg) | ((with_reducible refine gate_dst (N := 6) rfl ?_); refine box_event ?hg (N := 6) ?hd (cs := #[.int .u64 0, .int .u64 0]) (t := 30) ?hr ?_; (case hd => rfl); (case hg => rfl); (case hr => first | (go_simp; done) | (go_simp; rfl)); intro gb113 hg w5 hbox hb; have n0_ := Aside0.mk (blk_below (g := gb111) (o := .cells #[.int .u64 a0_0, .int .u64 a0_1] 30 (0, 0)) (by (with_reducible repeat (first | refine blk_drewN ?_ _ | refine blk_drew ?_ | refine blk_alloc ?_ _)); exact BK111.out) hb); have n1_ := Aside0.mk (blk_below (g := gb112) (o := .cells #[.int .u64 0, .int .u64 0] 30 (0, 0)) (by (with_reducible repeat (first | refine blk_drewN ?_ _ | refine blk_drew ?_ | refine blk_alloc ?_ _)); exact BK112.out) hb); have n2_ := Aside0.mk (below_step (by repeat (first | (with_reducible first | exact HB.out | apply below_alloc | apply pw_below_drewN | apply below_drew1 | refine below_set ?_ GE111.out | refine below_set ?_ GE112.out) | exact HB.out)) hb); have n3_ := Aside0.mk (hbox); have n4_ := Aside0.mk ((by rw [hg]; exact (below_size (by repeat (first | (with_reducible first | exact HB.out | apply below_alloc | apply pw_below_drewN | apply below_drew1 | refine below_set ?_ GE111.out | refine below_set ?_ GE112.out) | exact HB.out))) : w.heap.size ≤ gb113)); have n5_ := Aside0.mk ((by rw [hg]; exact (below_size (by repeat (first | (with_reducible first | exact HB.out | apply below_alloc | apply pw_below_drewN | apply below_drew1 | refine below_set ?_ GE111.out | refine below_set ?_ GE112.out) | exact HB.out))) : w.heap.size ≤ gb113)); have n6_ := Aside0.mk ((by rw [hg]; exact Nat.ne_of_lt (blk_lt (g := gb111) (o := .cells #[.int .u64 a0_0, .int .u64 a0_1] 30 (0, 0)) (by (with_reducible repeat (first | refine blk_drewN ?_ _ | refine blk_drew ?_ | refine blk_alloc ?_ _)); exact BK111.out)) : gb111 ≠ gb113)); have n7_ := Aside0.mk ((by rw [hg]; exact Nat.ne_of_gt (blk_lt (g := gb111) (o := .cells #[.int .u64 a0_0, .int .u64 a0_1] 30 (0, 0)) (by (with_reducible repeat (first | refine blk_drewN ?_ _ | refine blk_drew ?_ | refine blk_alloc ?_ _)); exact BK111.out)) : gb113 ≠ gb111)); have n8_ := Aside0.mk ((by rw [hg]; exact Nat.ne_of_lt (blk_lt (g := gb112) (o := .cells #[.int .u64 0, .int .u64 0] 30 (0, 0)) (by (with_reducible repeat (first | refine blk_drewN ?_ _ | refine blk_drew ?_ | refine blk_alloc ?_ _)); exact BK112.out)) : gb112 ≠ gb113)); have n9_ := Aside0.mk ((by rw [hg]; exact Nat.ne_of_gt (blk_lt (g := gb112) (o := .cells #[.int .u64 0, .int .u64 0] 30 (0, 0)) (by (with_reducible repeat (first | refine blk_drewN ?_ _ | refine blk_drew ?_ | refine blk_alloc ?_ _)); exact BK112.out)) : gb113 ≠ gb112)); clear BK111; clear BK112; clear HB; have BK111 := n0_; have BK112 := n1_; have HB := n2_; have BK113 := n3_; have GW113 := n4_; have GE113 := n5_; have NB111_113 := n6_; have NB113_111 := n7_; have NB112_113 := n8_; have NB113_112 := n9_; clear n0_ n1_ n2_ n3_ n4_ n5_ n6_ n7_ n8_ n9_; clear hb hbox hg; have hnb6 := NB113_111.out; have hnc6 := NB111_113.out; have hnb7 := NB113_112.out; have hnc7 := NB112_113.out; have hcz8_0 : w5.cell? ⟨gb113, 0, none⟩ = some (.int .u64 0) := (blk_cell BK113.out 0).trans rfl; have hcz8_1 : w5.cell? ⟨gb113, 1, none⟩ = some (.int .u64 0) := (blk_cell BK113.out 1).trans rfl; have hfz8_0 := blk_frozen BK113.out 0; have hfz8_1 := blk_frozen BK113.out 1))
  go_loopg [7, 8] k (fun kq v7 v8 w' => ∃ (x7_1 : Int) (x8_1 : Int) (x114000_1 : Int) (x114001_1 : Int), v7 = .int .u64 x7_1 ∧ v8 = .int .i64 x8_1 ∧ Aside0 (customsref01_DivMod.l0 kq a1 x7_1 x8_1 a0_0 a0_1 x114000_1 x114001_1 = some (r1, r2, r3)) ∧ Aside0 (kq ≤ k) ∧ Aside0 (w'.heap[gb111]? = some (.cells #[.int .u64 a0_0, .int .u64 a0_1] 30 (0, 0))) ∧ Aside0 (w'.heap[gb112]? = some (.cells #[.int .u64 0, .int .u64 0] 30 (0, 0))) ∧ Aside0 (w'.heap[gb113]? = some (.cells #[.int .u64 x114000_1, .int .u64 x114001_1] 30 (0, 0))) ∧ Aside0 (Below w.heap.size w w'))
  case atStart => exact ⟨(0), (127), (0), (0), (by first | rfl | (simp; done) | (simp [*]; done)), (by first | rfl | (simp; done) | (simp [*]; done)), H', ⟨Nat.le_refl _⟩, ⟨by (with_reducible repeat (first | refine blk_drewN ?_ _ | refine blk_drew ?_ | refine blk_alloc ?_ _)); refine blk_far ?_ NB111_113.out _; (with_reducible repeat (first | refine blk_drewN ?_ _ | refine blk_drew ?_ | refine blk_alloc ?_ _)); refine blk_far ?_ NB111_113.out _; (with_reducible repeat (first | refine blk_drewN ?_ _ | refine blk_drew ?_ | refine blk_alloc ?_ _)); exact BK111.out⟩, ⟨by (with_reducible repeat (first | refine blk_drewN ?_ _ | refine blk_drew ?_ | refine blk_alloc ?_ _)); refine blk_far ?_ NB112_113.out _; (with_reducible repeat (first | refine blk_drewN ?_ _ | refine blk_drew ?_ | refine blk_alloc ?_ _)); refine blk_far ?_ NB112_113.out _; (with_reducible repeat (first | refine blk_drewN ?_ _ | refine blk_drew ?_ | refine blk_alloc ?_ _)); exact BK112.out⟩, ⟨by (with_reducible repeat (first | refine blk_drewN ?_ _ | refine blk_drew ?_ | refine blk_alloc ?_ _)); refine blk_put (cs := #[.int .u64 0, .int .u64 0]) ?_ 1 _ rfl; (with_reducible repeat (first | refine blk_drewN ?_ _ | refine blk_drew ?_ | refine blk_alloc ?_ _)); refine blk_put (cs := #[.int .u64 0, .int .u64 0]) ?_ 0 _ rfl; (with_reducible repeat (first | refine blk_drewN ?_ _ | refine blk_drew ?_ | refine blk_alloc ?_ _)); exact BK113.out⟩, ⟨by repeat (first | (with_reducible first | exact HB.out | apply below_alloc | apply pw_below_drewN | apply below_drew1 | refine below_set ?_ GE111.out | refine below_set ?_ GE112.out | refine below_set ?_ GE113.out) | exact HB.out)⟩⟩
  case round =>
    clear H'
    try clear p2
    try clear c3
    try clear c6
    try clear c7
    try clear hcz8_0
    try clear hcz8_1
    try clear hfz8_0
    try clear hfz8_1
    obtain ⟨x7_1, x8_1, x114000_1, x114001_1, rfl, rfl, HA, HK1, BK111, BK112, BK113, HB⟩ := hrel
    cases gk with
    | zero => exact absurd HA.out (by simp [customsref01_DivMod.l0])
    | succ k1 =>
      have H := HA.out
      clear HA
      simp only [customsref01_DivMod.l0] at H
      by_cases c9 : x8_1 ≥ 0
      · rw [if_pos c9] at H
        have c9b0 : decide (0 ≤ x8_1) = true := decide_eq_true c9
        clear c9
        by_cases c10 : 0 ≤ (Go.bits .and .i64 x8_1 63)
        · rw [if_pos c10] at H
          have c10b0 := eq_true c10
          have c10b1 : decide (0 ≤ (Go.bits .and .i64 x8_1 63)) = true := decide_eq_true c10
          clear c10
          obtain ⟨ji11, hji11⟩ : ∃ j_ : Int, (shr .u64 a0_1 (Go.bits .and .i64 x8_1 63)) = j_ := ⟨_, rfl⟩
          replace H : (if x8_1 > 63 then (if 0 ≤ (wrap64 (x8_1 - 64)) then ((customsref01_Add.f x114000_1 x114001_1 x114000_1 x114001_1).bind fun bt114 => (if (x7_1 / 9223372036854775808) = 1 then (customsref01_DivMod.l0 k1 a1 (IntKind.u64.wrap ((Go.bits .or .u64 (IntKind.u64.wrap (x7_1 * 2)) (Go.bits .and .u64 (shr .u64 a0_0 (wrap64 (x8_1 - 64))) 1)) - a1)) (wrap64 (x8_1 - 1)) a0_0 a0_1 bt114.1 (Go.bits .or .u64 bt114.2.1 1)) else (if (Go.bits .or .u64 (IntKind.u64.wrap (x7_1 * 2)) (Go.bits .and .u64 (shr .u64 a0_0 (wrap64 (x8_1 - 64))) 1)) ≥ a1 then (customsref01_DivMod.l0 k1 a1 (IntKind.u64.wrap ((Go.bits .or .u64 (IntKind.u64.wrap (x7_1 * 2)) (Go.bits .and .u64 (shr .u64 a0_0 (wrap64 (x8_1 - 64))) 1)) - a1)) (wrap64 (x8_1 - 1)) a0_0 a0_1 bt114.1 (Go.bits .or .u64 bt114.2.1 1)) else (customsref01_DivMod.l0 k1 a1 (Go.bits .or .u64 (IntKind.u64.wrap (x7_1 * 2)) (Go.bits .and .u64 (shr .u64 a0_0 (wrap64 (x8_1 - 64))) 1)) (wrap64 (x8_1 - 1)) a0_0 a0_1 bt114.1 bt114.2.1)))) else (none)) else ((customsref01_Add.f x114000_1 x114001_1 x114000_1 x114001_1).bind fun bt117 => (if (x7_1 / 9223372036854775808) = 1 then (customsref01_DivMod.l0 k1 a1 (IntKind.u64.wrap ((Go.bits .or .u64 (IntKind.u64.wrap (x7_1 * 2)) (Go.bits .and .u64 (ji11) 1)) - a1)) (wrap64 (x8_1 - 1)) a0_0 a0_1 bt117.1 (Go.bits .or .u64 bt117.2.1 1)) else (if (Go.bits .or .u64 (IntKind.u64.wrap (x7_1 * 2)) (Go.bits .and .u64 (ji11) 1)) ≥ a1 then (customsref01_DivMod.l0 k1 a1 (IntKind.u64.wrap ((Go.bits .or .u64 (IntKind.u64.wrap (x7_1 * 2)) (Go.bits .and .u64 (ji11) 1)) - a1)) (wrap64 (x8_1 - 1)) a0_0 a0_1 bt117.1 (Go.bits .or .u64 bt117.2.1 1)) else (customsref01_DivMod.l0 k1 a1 (Go.bits .or .u64 (IntKind.u64.wrap (x7_1 * 2)) (Go.bits .and .u64 (ji11) 1)) (wrap64 (x8_1 - 1)) a0_0 a0_1 bt117.1 bt117.2.1))))) = some (r1, r2, r3) := by first | (rw [hji11] at H; exact H) | (simp only [hji11] at H ⊢; exact H)
          have hji11_ : (a0_1 / 2 ^ min (Go.bits .and .i64 x8_1 63).toNat 64) = ji11 := hji11
          have hji11z : (Go.bits .and .i64 x8_1 63) ≤ 64 → (a0_1 / 2 ^ (Go.bits .and .i64 x8_1 63).toNat) = ji11 := shr_small hji11
          by_cases c12 : x8_1 > 63
          · rw [if_pos c12] at H
            have c12b0 : decide (63 < x8_1) = true := decide_eq_true c12
            clear c12
            obtain ⟨ji13, hji13⟩ : ∃ j_ : Int, (wrap64 (x8_1 - 64)) = j_ := ⟨_, rfl⟩
            replace H : (if 0 ≤ (ji13) then ((customsref01_Add.f x114000_1 x114001_1 x114000_1 x114001_1).bind fun bt114 => (if (x7_1 / 9223372036854775808) = 1 then (customsref01_DivMod.l0 k1 a1 (IntKind.u64.wrap ((Go.bits .or .u64 (IntKind.u64.wrap (x7_1 * 2)) (Go.bits .and .u64 (shr .u64 a0_0 (ji13)) 1)) - a1)) (wrap64 (x8_1 - 1)) a0_0 a0_1 bt114.1 (Go.bits .or .u64 bt114.2.1 1)) else (if (Go.bits .or .u64 (IntKind.u64.wrap (x7_1 * 2)) (Go.bits .and .u64 (shr .u64 a0_0 (ji13)) 1)) ≥ a1 then (customsref01_DivMod.l0 k1 a1 (IntKind.u64.wrap ((Go.bits .or .u64 (IntKind.u64.wrap (x7_1 * 2)) (Go.bits .and .u64 (shr .u64 a0_0 (ji13)) 1)) - a1)) (wrap64 (x8_1 - 1)) a0_0 a0_1 bt114.1 (Go.bits .or .u64 bt114.2.1 1)) else (customsref01_DivMod.l0 k1 a1 (Go.bits .or .u64 (IntKind.u64.wrap (x7_1 * 2)) (Go.bits .and .u64 (shr .u64 a0_0 (ji13)) 1)) (wrap64 (x8_1 - 1)) a0_0 a0_1 bt114.1 bt114.2.1)))) else (none)) = some (r1, r2, r3) := by first | (rw [hji13] at H; exact H) | (simp only [hji13] at H ⊢; exact H)
            have hji13w : (IntKind.i64.wrap (x8_1 - 64)) = ji13 := (i64_w _).trans hji13
            by_cases c14 : 0 ≤ (ji13)
            · rw [if_pos c14] at H
              have c14b0 := eq_true c14
              have c14b1 : decide (0 ≤ (ji13)) = true := decide_eq_true c14
              clear c14
              obtain ⟨ji15, hji15⟩ : ∃ j_ : Int, (shr .u64 a0_0 (ji13)) = j_ := ⟨_, rfl⟩
              replace H : ((customsref01_Add.f x114000_1 x114001_1 x114000_1 x114001_1).bind fun bt114 => (if (x7_1 / 9223372036854775808) = 1 then (customsref01_DivMod.l0 k1 a1 (IntKind.u64.wrap ((Go.bits .or .u64 (IntKind.u64.wrap (x7_1 * 2)) (Go.bits .and .u64 (ji15) 1)) - a1)) (wrap64 (x8_1 - 1)) a0_0 a0_1 bt114.1 (Go.bits .or .u64 bt114.2.1 1)) else (if (Go.bits .or .u64 (IntKind.u64.wrap (x7_1 * 2)) (Go.bits .and .u64 (ji15) 1)) ≥ a1 then (customsref01_DivMod.l0 k1 a1 (IntKind.u64.wrap ((Go.bits .or .u64 (IntKind.u64.wrap (x7_1 * 2)) (Go.bits .and .u64 (ji15) 1)) - a1)) (wrap64 (x8_1 - 1)) a0_0 a0_1 bt114.1 (Go.bits .or .u64 bt114.2.1 1)) else (customsref01_DivMod.l0 k1 a1 (Go.bits .or .u64 (IntKind.u64.wrap (x7_1 * 2)) (Go.bits .and .u64 (ji15) 1)) (wrap64 (x8_1 - 1)) a0_0 a0_1 bt114.1 bt114.2.1)))) = some (r1, r2, r3) := by first | (rw [hji15] at H; exact H) | (simp only [hji15] at H ⊢; exact H)
              have hji15_ : (a0_0 / 2 ^ min (ji13).toNat 64) = ji15 := hji15
              have hji15z : (ji13) ≤ 64 → (a0_0 / 2 ^ (ji13).toNat) = ji15 := shr_small hji15
              replace H := Option.bind_eq_some_iff.mp H
              obtain ⟨⟨t114, t115, t116⟩, A160, H⟩ := H
              replace H : (if (x7_1 / 9223372036854775808) = 1 then (customsref01_DivMod.l0 k1 a1 (IntKind.u64.wrap ((Go.bits .or .u64 (IntKind.u64.wrap (x7_1 * 2)) (Go.bits .and .u64 (ji15) 1)) - a1)) (wrap64 (x8_1 - 1)) a0_0 a0_1 t114 (Go.bits .or .u64 t115 1)) else (if (Go.bits .or .u64 (IntKind.u64.wrap (x7_1 * 2)) (Go.bits .and .u64 (ji15) 1)) ≥ a1 then (customsref01_DivMod.l0 k1 a1 (IntKind.u64.wrap ((Go.bits .or .u64 (IntKind.u64.wrap (x7_1 * 2)) (Go.bits .and .u64 (ji15) 1)) - a1)) (wrap64 (x8_1 - 1)) a0_0 a0_1 t114 (Go.bits .or .u64 t115 1)) else (customsref01_DivMod.l0 k1 a1 (Go.bits .or .u64 (IntKind.u64.wrap (x7_1 * 2)) (Go.bits .and .u64 (ji15) 1)) (wrap64 (x8_1 - 1)) a0_0 a0_1 t114 t115))) = some (r1, r2, r3) := H
              have A16 := Aside0.mk A160
              clear A160
              by_cases c17 : (x7_1 / 9223372036854775808) = 1
              · rw [if_pos c17] at H
                have c17b0 : ((x7_1 / 9223372036854775808) == 1) = true := beq_iff_eq.mpr c17
                have c17b1 : ((x7_1 / 9223372036854775808) != 1) = false := bne_eq_false_iff_eq.mpr c17
                clear c17
                have H' := Aside0.mk H
                clear H
                have hnb18 := NB111_112.out
                have hnc18 := NB112_111.out
                have hnb19 := NB111_113.out
                have hnc19 := NB113_111.out
                have hcz20_0 : wr.cell? ⟨gb111, 0, none⟩ = some (.int .u64 a0_0) := (blk_cell BK111.out 0).trans rfl
                have hcz20_1 : wr.cell? ⟨gb111, 1, none⟩ = some (.int .u64 a0_1) := (blk_cell BK111.out 1).trans rfl
                have hfz20_0 := blk_frozen BK111.out 0
                have hfz20_1 := blk_frozen BK111.out 1
                have hnb21 := NB113_112.out
                have hnc21 := NB112_113.out
                have hcz22_0 : wr.cell? ⟨gb113, 0, none⟩ = some (.int .u64 x114000_1) := (blk_cell BK113.out 0).trans rfl
                have hcz22_1 : wr.cell? ⟨gb113, 1, none⟩ = some (.int .u64 x114001_1) := (blk_cell BK113.out 1).trans rfl
                have hfz22_0 := blk_frozen BK113.out 0
                have hfz22_1 := blk_frozen BK113.out 1
                go_wp2_with (first | ((with_reducible refine gate_callee (f := 26) rfl ?_); refine goesL_ (some 39) rfl rfl Try.func26 (by kernel_rfl) rfl #[.agg #[.int .u64 x114000_1, .int .u64 x114001_1], .agg #[.int .u64 x114000_1, .int .u64 x114001_1]] rfl (by (try simp only [List.map_toArray, List.map_cons, List.map_nil]); first | done | rfl | (simp only [List.length_drop, List.length_take]; rfl)) ?_; (with_reducible refine (customsref01_Add.calls x114000_1 x114001_1 x114000_1 x114001_1 t114 t115 t116 _ A16.out).mono ?_); rintro e w23 ⟨rfl, hb⟩; refine ⟨_, rfl, ?_⟩; have n0_ := Aside0.mk (blk_below (g := gb111) (o := .cells #[.int .u64 a0_0, .int .u64 a0_1] 30 (0, 0)) (by (with_reducible repeat (first | refine blk_drewN ?_ _ | refine blk_drew ?_ | refine blk_alloc ?_ _)); exact BK111.out) hb); have n1_ := Aside0.mk (blk_below (g := gb112) (o := .cells #[.int .u64 0, .int .u64 0] 30 (0, 0)) (by (with_reducible repeat (first | refine blk_drewN ?_ _ | refine blk_drew ?_ | refine blk_alloc ?_ _)); exact BK112.out) hb); have n2_ := Aside0.mk (blk_below (g := gb113) (o := .cells #[.int .u64 x114000_1, .int .u64 x114001_1] 30 (0, 0)) (by (with_reducible repeat (first | refine blk_drewN ?_ _ | refine blk_drew ?_ | refine blk_alloc ?_ _)); exact BK113.out) hb); have n3_ := Aside0.mk (below_step (by repeat (first | (with_reducible first | exact HB.out | apply below_alloc | apply pw_below_drewN | apply below_drew1 | refine below_set ?_ GE111.out | refine below_set ?_ GE112.out | refine below_set ?_ GE113.out) | exact HB.out)) hb); clear BK111; clear BK112; clear BK113; clear HB; have BK111 := n0_; have BK112 := n1_; have BK113 := n2_; have HB := n3_; clear n0_ n1_ n2_ n3_; (try clear hb); (try clear hb2); (try clear hk); (try clear hi); have hcz24_0 : w23.cell? ⟨gb113, 0, none⟩ = some (.int .u64 x114000_1) := (blk_cell BK113.out 0).trans rfl; have hcz24_1 : w23.cell? ⟨gb113, 1, none⟩ = some (.int .u64 x114001_1) := (blk_cell BK113.out 1).trans rfl; have hfz24_0 := blk_frozen BK113.out 0; have hfz24_1 := blk_frozen BK113.out 1))
                go_roundg k1
                case measure => have := HK1.out; omega
                case rel => exact ⟨(IntKind.u64.wrap ((Go.bits .or .u64 (IntKind.u64.wrap (x7_1 * 2)) (Go.bits .and .u64 (ji15) 1)) - a1)), (wrap64 (x8_1 - 1)), (t114), (Go.bits .or .u64 t115 1), (by first | rfl | (simp; done) | (simp only [← hji15] <;> (first | rfl | simp)) | (simp [*]; done)), (by first | rfl | (simp; done) | (simp [*]; done)), H', ⟨by have := HK1.out; omega⟩, ⟨by (with_reducible repeat (first | refine blk_drewN ?_ _ | refine blk_drew ?_ | refine blk_alloc ?_ _)); refine blk_far ?_ NB111_113.out _; (with_reducible repeat (first | refine blk_drewN ?_ _ | refine blk_drew ?_ | refine blk_alloc ?_ _)); refine blk_far ?_ NB111_113.out _; (with_reducible repeat (first | refine blk_drewN ?_ _ | refine blk_drew ?_ | refine blk_alloc ?_ _)); refine blk_far ?_ NB111_113.out _; (with_reducible repeat (first | refine blk_drewN ?_ _ | refine blk_drew ?_ | refine blk_alloc ?_ _)); exact BK111.out⟩, ⟨by (with_reducible repeat (first | refine blk_drewN ?_ _ | refine blk_drew ?_ | refine blk_alloc ?_ _)); refine blk_far ?_ NB112_113.out _; (with_reducible repeat (first | refine blk_drewN ?_ _ | refine blk_drew ?_ | refine blk_alloc ?_ _)); refine blk_far ?_ NB112_113.out _; (with_reducible repeat (first | refine blk_drewN ?_ _ | refine blk_drew ?_ | refine blk_alloc ?_ _)); refine blk_far ?_ NB112_113.out _; (with_reducible repeat (first | refine blk_drewN ?_ _ | refine blk_drew ?_ | refine blk_alloc ?_ _)); exact BK112.out⟩, ⟨by (with_reducible repeat (first | refine blk_drewN ?_ _ | refine blk_drew ?_ | refine blk_alloc ?_ _)); refine blk_put (cs := #[.int .u64 t114, .int .u64 t115]) ?_ 1 _ rfl; (with_reducible repeat (first | refine blk_drewN ?_ _ | refine blk_drew ?_ | refine blk_alloc ?_ _)); refine blk_put (cs := #[.int .u64 t114, .int .u64 x114001_1]) ?_ 1 _ rfl; (with_reducible repeat (first | refine blk_drewN ?_ _ | refine blk_drew ?_ | refine blk_alloc ?_ _)); refine blk_put (cs := #[.int .u64 x114000_1, .int .u64 x114001_1]) ?_ 0 _ rfl; (with_reducible repeat (first | refine blk_drewN ?_ _ | refine blk_drew ?_ | refine blk_alloc ?_ _)); exact BK113.out⟩, ⟨by repeat (first | (with_reducible first | exact HB.out | apply below_alloc | apply pw_below_drewN | apply below_drew1 | refine below_set ?_ GE111.out | refine below_set ?_ GE112.out | refine below_set ?_ GE113.out) | exact HB.out)⟩⟩
              · rw [if_neg c17] at H
                have c17b0 : ((x7_1 / 9223372036854775808) == 1) = false := beq_eq_false_iff_ne.mpr c17
                have c17b1 : ((x7_1 / 9223372036854775808) != 1) = true := bne_iff_ne.mpr c17
                by_cases c25 : (Go.bits .or .u64 (IntKind.u64.wrap (x7_1 * 2)) (Go.bits .and .u64 (ji15) 1)) ≥ a1
                · rw [if_pos c25] at H
                  have c25b0 : decide (a1 ≤ (Go.bits .or .u64 (IntKind.u64.wrap (x7_1 * 2)) (Go.bits .and .u64 (ji15) 1))) = true := decide_eq_true c25
                  clear c25
                  have H' := Aside0.mk H
                  clear H
                  have hnb26 := NB111_112.out
                  have hnc26 := NB112_111.out
                  have hnb27 := NB111_113.out
                  have hnc27 := NB113_111.out
                  have hcz28_0 : wr.cell? ⟨gb111, 0, none⟩ = some (.int .u64 a0_0) := (blk_cell BK111.out 0).trans rfl
                  have hcz28_1 : wr.cell? ⟨gb111, 1, none⟩ = some (.int .u64 a0_1) := (blk_cell BK111.out 1).trans rfl
                  have hfz28_0 := blk_frozen BK111.out 0
                  have hfz28_1 := blk_frozen BK111.out 1
                  have hnb29 := NB113_112.out
                  have hnc29 := NB112_113.out
                  have hcz30_0 : wr.cell? ⟨gb113, 0, none⟩ = some (.int .u64 x114000_1) := (blk_cell BK113.out 0).trans rfl
                  have hcz30_1 : wr.cell? ⟨gb113, 1, none⟩ = some (.int .u64 x114001_1) := (blk_cell BK113.out 1).trans rfl
                  have hfz30_0 := blk_frozen BK113.out 0
                  have hfz30_1 := blk_frozen BK113.out 1
                  go_wp2_with (first | ((with_reducible refine gate_callee (f := 26) rfl ?_); refine goesL_ (some 39) rfl rfl Try.func26 (by kernel_rfl) rfl #[.agg #[.int .u64 x114000_1, .int .u64 x114001_1], .agg #[.int .u64 x114000_1, .int .u64 x114001_1]] rfl (by (try simp only [List.map_toArray, List.map_cons, List.map_nil]); first | done | rfl | (simp only [List.length_drop, List.length_take]; rfl)) ?_; (with_reducible refine (customsref01_Add.calls x114000_1 x114001_1 x114000_1 x114001_1 t114 t115 t116 _ A16.out).mono ?_); rintro e w31 ⟨rfl, hb⟩; refine ⟨_, rfl, ?_⟩; have n0_ := Aside0.mk (blk_below (g := gb111) (o := .cells #[.int .u64 a0_0, .int .u64 a0_1] 30 (0, 0)) (by (with_reducible repeat (first | refine blk_drewN ?_ _ | refine blk_drew ?_ | refine blk_alloc ?_ _)); exact BK111.out) hb); have n1_ := Aside0.mk (blk_below (g := gb112) (o := .cells #[.int .u64 0, .int .u64 0] 30 (0, 0)) (by (with_reducible repeat (first | refine blk_drewN ?_ _ | refine blk_drew ?_ | refine blk_alloc ?_ _)); exact BK112.out) hb); have n2_ := Aside0.mk (blk_below (g := gb113) (o := .cells #[.int .u64 x114000_1, .int .u64 x114001_1] 30 (0, 0)) (by (with_reducible repeat (first | refine blk_drewN ?_ _ | refine blk_drew ?_ | refine blk_alloc ?_ _)); exact BK113.out) hb); have n3_ := Aside0.mk (below_step (by repeat (first | (with_reducible first | exact HB.out | apply below_alloc | apply pw_below_drewN | apply below_drew1 | refine below_set ?_ GE111.out | refine below_set ?_ GE112.out | refine below_set ?_ GE113.out) | exact HB.out)) hb); clear BK111; clear BK112; clear BK113; clear HB; have BK111 := n0_; have BK112 := n1_; have BK113 := n2_; have HB := n3_; clear n0_ n1_ n2_ n3_; (try clear hb); (try clear hb2); (try clear hk); (try clear hi); have hcz32_0 : w31.cell? ⟨gb113, 0, none⟩ = some (.int .u64 x114000_1) := (blk_cell BK113.out 0).trans rfl; have hcz32_1 : w31.cell? ⟨gb113, 1, none⟩ = some (.int .u64 x114001_1) := (blk_cell BK113.out 1).trans rfl; have hfz32_0 := blk_frozen BK113.out 0; have hfz32_1 := blk_frozen BK113.out 1))
                  go_roundg k1
                  case measure => have := HK1.out; omega
                  case rel => exact ⟨(IntKind.u64.wrap ((Go.bits .or .u64 (IntKind.u64.wrap (x7_1 * 2)) (Go.bits .and .u64 (ji15) 1)) - a1)), (wrap64 (x8_1 - 1)), (t114), (Go.bits .or .u64 t115 1), (by first | rfl | (simp; done) | (simp only [← hji15] <;> (first | rfl | simp)) | (simp [*]; done)), (by first | rfl | (simp; done) | (simp [*]; done)), H', ⟨by have := HK1.out; omega⟩, ⟨by (with_reducible repeat (first | refine blk_drewN ?_ _ | refine blk_drew ?_ | refine blk_alloc ?_ _)); refine blk_far ?_ NB111_113.out _; (with_reducible repeat (first | refine blk_drewN ?_ _ | refine blk_drew ?_ | refine blk_alloc ?_ _)); refine blk_far ?_ NB111_113.out _; (with_reducible repeat (first | refine blk_drewN ?_ _ | refine blk_drew ?_ | refine blk_alloc ?_ _)); refine blk_far ?_ NB111_113.out _; (with_reducible repeat (first | refine blk_drewN ?_ _ | refine blk_drew ?_ | refine blk_alloc ?_ _)); exact BK111.out⟩, ⟨by (with_reducible repeat (first | refine blk_drewN ?_ _ | refine blk_drew ?_ | refine blk_alloc ?_ _)); refine blk_far ?_ NB112_113.out _; (with_reducible repeat (first | refine blk_drewN ?_ _ | refine blk_drew ?_ | refine blk_alloc ?_ _)); refine blk_far ?_ NB112_113.out _; (with_reducible repeat (first | refine blk_drewN ?_ _ | refine blk_drew ?_ | refine blk_alloc ?_ _)); refine blk_far ?_ NB112_113.out _; (with_reducible repeat (first | refine blk_drewN ?_ _ | refine blk_drew ?_ | refine blk_alloc ?_ _)); exact BK112.out⟩, ⟨by (with_reducible repeat (first | refine blk_drewN ?_ _ | refine blk_drew ?_ | refine blk_alloc ?_ _)); refine blk_put (cs := #[.int .u64 t114, .int .u64 t115]) ?_ 1 _ rfl; (with_reducible repeat (first | refine blk_drewN ?_ _ | refine blk_drew ?_ | refine blk_alloc ?_ _)); refine blk_put (cs := #[.int .u64 t114, .int .u64 x114001_1]) ?_ 1 _ rfl; (with_reducible repeat (first | refine blk_drewN ?_ _ | refine blk_drew ?_ | refine blk_alloc ?_ _)); refine blk_put (cs := #[.int .u64 x114000_1, .int .u64 x114001_1]) ?_ 0 _ rfl; (with_reducible repeat (first | refine blk_drewN ?_ _ | refine blk_drew ?_ | refine blk_alloc ?_ _)); exact BK113.out⟩, ⟨by repeat (first | (with_reducible first | exact HB.out | apply below_alloc | apply pw_below_drewN | apply below_drew1 | refine below_set ?_ GE111.out | refine below_set ?_ GE112.out | refine below_set ?_ GE113.out) | exact HB.out)⟩⟩
                · rw [if_neg c25] at H
                  have c25b0 : decide (a1 ≤ (Go.bits .or .u64 (IntKind.u64.wrap (x7_1 * 2)) (Go.bits .and .u64 (ji15) 1))) = false := decide_eq_false c25
                  clear c25
                  have H' := Aside0.mk H
                  clear H
                  have hnb33 := NB111_112.out
                  have hnc33 := NB112_111.out
                  have hnb34 := NB111_113.out
                  have hnc34 := NB113_111.out
                  have hcz35_0 : wr.cell? ⟨gb111, 0, none⟩ = some (.int .u64 a0_0) := (blk_cell BK111.out 0).trans rfl
                  have hcz35_1 : wr.cell? ⟨gb111, 1, none⟩ = some (.int .u64 a0_1) := (blk_cell BK111.out 1).trans rfl
                  have hfz35_0 := blk_frozen BK111.out 0
                  have hfz35_1 := blk_frozen BK111.out 1
                  have hnb36 := NB113_112.out
                  have hnc36 := NB112_113.out
                  have hcz37_0 : wr.cell? ⟨gb113, 0, none⟩ = some (.int .u64 x114000_1) := (blk_cell BK113.out 0).trans rfl
                  have hcz37_1 : wr.cell? ⟨gb113, 1, none⟩ = some (.int .u64 x114001_1) := (blk_cell BK113.out 1).trans rfl
                  have hfz37_0 := blk_frozen BK113.out 0
                  have hfz37_1 := blk_frozen BK113.out 1
                  go_wp2_with (first | ((with_reducible refine gate_callee (f := 26) rfl ?_); refine goesL_ (some 39) rfl rfl Try.func26 (by kernel_rfl) rfl #[.agg #[.int .u64 x114000_1, .int .u64 x114001_1], .agg #[.int .u64 x114000_1, .int .u64 x114001_1]] rfl (by (try simp only [List.map_toArray, List.map_cons, List.map_nil]); first | done | rfl | (simp only [List.length_drop, List.length_take]; rfl)) ?_; (with_reducible refine (customsref01_Add.calls x114000_1 x114001_1 x114000_1 x114001_1 t114 t115 t116 _ A16.out).mono ?_); rintro e w38 ⟨rfl, hb⟩; refine ⟨_, rfl, ?_⟩; have n0_ := Aside0.mk (blk_below (g := gb111) (o := .cells #[.int .u64 a0_0, .int .u64 a0_1] 30 (0, 0)) (by (with_reducible repeat (first | refine blk_drewN ?_ _ | refine blk_drew ?_ | refine blk_alloc ?_ _)); exact BK111.out) hb); have n1_ := Aside0.mk (blk_below (g := gb112) (o := .cells #[.int .u64 0, .int .u64 0] 30 (0, 0)) (by (with_reducible repeat (first | refine blk_drewN ?_ _ | refine blk_drew ?_ | refine blk_alloc ?_ _)); exact BK112.out) hb); have n2_ := Aside0.mk (blk_below (g := gb113) (o := .cells #[.int .u64 x114000_1, .int .u64 x114001_1] 30 (0, 0)) (by (with_reducible repeat (first | refine blk_drewN ?_ _ | refine blk_drew ?_ | refine blk_alloc ?_ _)); exact BK113.out) hb); have n3_ := Aside0.mk (below_step (by repeat (first | (with_reducible first | exact HB.out | apply below_alloc | apply pw_below_drewN | apply below_drew1 | refine below_set ?_ GE111.out | refine below_set ?_ GE112.out | refine below_set ?_ GE113.out) | exact HB.out)) hb); clear BK111; clear BK112; clear BK113; clear HB; have BK111 := n0_; have BK112 := n1_; have BK113 := n2_; have HB := n3_; clear n0_ n1_ n2_ n3_; (try clear hb); (try clear hb2); (try clear hk); (try clear hi); have hcz39_0 : w38.cell? ⟨gb113, 0, none⟩ = some (.int .u64 x114000_1) := (blk_cell BK113.out 0).trans rfl; have hcz39_1 : w38.cell? ⟨gb113, 1, none⟩ = some (.int .u64 x114001_1) := (blk_cell BK113.out 1).trans rfl; have hfz39_0 := blk_frozen BK113.out 0; have hfz39_1 := blk_frozen BK113.out 1))
                  go_roundg k1
                  case measure => have := HK1.out; omega
                  case rel => exact ⟨(Go.bits .or .u64 (IntKind.u64.wrap (x7_1 * 2)) (Go.bits .and .u64 (ji15) 1)), (wrap64 (x8_1 - 1)), (t114), (t115), (by first | rfl | (simp; done) | (simp only [← hji15] <;> (first | rfl | simp)) | (simp [*]; done)), (by first | rfl | (simp; done) | (simp [*]; done)), H', ⟨by have := HK1.out; omega⟩, ⟨by (with_reducible repeat (first | refine blk_drewN ?_ _ | refine blk_drew ?_ | refine blk_alloc ?_ _)); refine blk_far ?_ NB111_113.out _; (with_reducible repeat (first | refine blk_drewN ?_ _ | refine blk_drew ?_ | refine blk_alloc ?_ _)); refine blk_far ?_ NB111_113.out _; (with_reducible repeat (first | refine blk_drewN ?_ _ | refine blk_drew ?_ | refine blk_alloc ?_ _)); exact BK111.out⟩, ⟨by (with_reducible repeat (first | refine blk_drewN ?_ _ | refine blk_drew ?_ | refine blk_alloc ?_ _)); refine blk_far ?_ NB112_113.out _; (with_reducible repeat (first | refine blk_drewN ?_ _ | refine blk_drew ?_ | refine blk_alloc ?_ _)); refine blk_far ?_ NB112_113.out _; (with_reducible repeat (first | refine blk_drewN ?_ _ | refine blk_drew ?_ | refine blk_alloc ?_ _)); exact BK112.out⟩, ⟨by (with_reducible repeat (first | refine blk_drewN ?_ _ | refine blk_drew ?_ | refine blk_alloc ?_ _)); refine blk_put (cs := #[.int .u64 t114, .int .u64 x114001_1]) ?_ 1 _ rfl; (with_reducible repeat (first | refine blk_drewN ?_ _ | refine blk_drew ?_ | refine blk_alloc ?_ _)); refine blk_put (cs := #[.int .u64 x114000_1, .int .u64 x114001_1]) ?_ 0 _ rfl; (with_reducible repeat (first | refine blk_drewN ?_ _ | refine blk_drew ?_ | refine blk_alloc ?_ _)); exact BK113.out⟩, ⟨by repeat (first | (with_reducible first | exact HB.out | apply below_alloc | apply pw_below_drewN | apply below_drew1 | refine below_set ?_ GE111.out | refine below_set ?_ GE112.out | refine below_set ?_ GE113.out) | exact HB.out)⟩⟩
            · rw [if_neg c14] at H
              exact absurd H (by simp)
          · rw [if_neg c12] at H
            have c12b0 : decide (63 < x8_1) = false := decide_eq_false c12
            clear c12
            replace H := Option.bind_eq_some_iff.mp H
            obtain ⟨⟨t117, t118, t119⟩, A400, H⟩ := H
            replace H : (if (x7_1 / 9223372036854775808) = 1 then (customsref01_DivMod.l0 k1 a1 (IntKind.u64.wrap ((Go.bits .or .u64 (IntKind.u64.wrap (x7_1 * 2)) (Go.bits .and .u64 (ji11) 1)) - a1)) (wrap64 (x8_1 - 1)) a0_0 a0_1 t117 (Go.bits .or .u64 t118 1)) else (if (Go.bits .or .u64 (IntKind.u64.wrap (x7_1 * 2)) (Go.bits .and .u64 (ji11) 1)) ≥ a1 then (customsref01_DivMod.l0 k1 a1 (IntKind.u64.wrap ((Go.bits .or .u64 (IntKind.u64.wrap (x7_1 * 2)) (Go.bits .and .u64 (ji11) 1)) - a1)) (wrap64 (x8_1 - 1)) a0_0 a0_1 t117 (Go.bits .or .u64 t118 1)) else (customsref01_DivMod.l0 k1 a1 (Go.bits .or .u64 (IntKind.u64.wrap (x7_1 * 2)) (Go.bits .and .u64 (ji11) 1)) (wrap64 (x8_1 - 1)) a0_0 a0_1 t117 t118))) = some (r1, r2, r3) := H
            have A40 := Aside0.mk A400
            clear A400
            by_cases c41 : (x7_1 / 9223372036854775808) = 1
            · rw [if_pos c41] at H
              have c41b0 : ((x7_1 / 9223372036854775808) == 1) = true := beq_iff_eq.mpr c41
              have c41b1 : ((x7_1 / 9223372036854775808) != 1) = false := bne_eq_false_iff_eq.mpr c41
              clear c41
              have H' := Aside0.mk H
              clear H
              have hnb42 := NB111_112.out
              have hnc42 := NB112_111.out
              have hnb43 := NB111_113.out
              have hnc43 := NB113_111.out
              have hcz44_0 : wr.cell? ⟨gb111, 0, none⟩ = some (.int .u64 a0_0) := (blk_cell BK111.out 0).trans rfl
              have hcz44_1 : wr.cell? ⟨gb111, 1, none⟩ = some (.int .u64 a0_1) := (blk_cell BK111.out 1).trans rfl
              have hfz44_0 := blk_frozen BK111.out 0
              have hfz44_1 := blk_frozen BK111.out 1
              have hnb45 := NB113_112.out
              have hnc45 := NB112_113.out
              have hcz46_0 : wr.cell? ⟨gb113, 0, none⟩ = some (.int .u64 x114000_1) := (blk_cell BK113.out 0).trans rfl
              have hcz46_1 : wr.cell? ⟨gb113, 1, none⟩ = some (.int .u64 x114001_1) := (blk_cell BK113.out 1).trans rfl
              have hfz46_0 := blk_frozen BK113.out 0
              have hfz46_1 := blk_frozen BK113.out 1
              go_wp2_with (first | ((with_reducible refine gate_callee (f := 26) rfl ?_); refine goesL_ (some 39) rfl rfl Try.func26 (by kernel_rfl) rfl #[.agg #[.int .u64 x114000_1, .int .u64 x114001_1], .agg #[.int .u64 x114000_1, .int .u64 x114001_1]] rfl (by (try simp only [List.map_toArray, List.map_cons, List.map_nil]); first | done | rfl | (simp only [List.length_drop, List.length_take]; rfl)) ?_; (with_reducible refine (customsref01_Add.calls x114000_1 x114001_1 x114000_1 x114001_1 t117 t118 t119 _ A40.out).mono ?_); rintro e w47 ⟨rfl, hb⟩; refine ⟨_, rfl, ?_⟩; have n0_ := Aside0.mk (blk_below (g := gb111) (o := .cells #[.int .u64 a0_0, .int .u64 a0_1] 30 (0, 0)) (by (with_reducible repeat (first | refine blk_drewN ?_ _ | refine blk_drew ?_ | refine blk_alloc ?_ _)); exact BK111.out) hb); have n1_ := Aside0.mk (blk_below (g := gb112) (o := .cells #[.int .u64 0, .int .u64 0] 30 (0, 0)) (by (with_reducible repeat (first | refine blk_drewN ?_ _ | refine blk_drew ?_ | refine blk_alloc ?_ _)); exact BK112.out) hb); have n2_ := Aside0.mk (blk_below (g := gb113) (o := .cells #[.int .u64 x114000_1, .int .u64 x114001_1] 30 (0, 0)) (by (with_reducible repeat (first | refine blk_drewN ?_ _ | refine blk_drew ?_ | refine blk_alloc ?_ _)); exact BK113.out) hb); have n3_ := Aside0.mk (below_step (by repeat (first | (with_reducible first | exact HB.out | apply below_alloc | apply pw_below_drewN | apply below_drew1 | refine below_set ?_ GE111.out | refine below_set ?_ GE112.out | refine below_set ?_ GE113.out) | exact HB.out)) hb); clear BK111; clear BK112; clear BK113; clear HB; have BK111 := n0_; have BK112 := n1_; have BK113 := n2_; have HB := n3_; clear n0_ n1_ n2_ n3_; (try clear hb); (try clear hb2); (try clear hk); (try clear hi); have hcz48_0 : w47.cell? ⟨gb113, 0, none⟩ = some (.int .u64 x114000_1) := (blk_cell BK113.out 0).trans rfl; have hcz48_1 : w47.cell? ⟨gb113, 1, none⟩ = some (.int .u64 x114001_1) := (blk_cell BK113.out 1).trans rfl; have hfz48_0 := blk_frozen BK113.out 0; have hfz48_1 := blk_frozen BK113.out 1))
              go_roundg k1
              case measure => have := HK1.out; omega
              case rel => exact ⟨(IntKind.u64.wrap ((Go.bits .or .u64 (IntKind.u64.wrap (x7_1 * 2)) (Go.bits .and .u64 (ji11) 1)) - a1)), (wrap64 (x8_1 - 1)), (t117), (Go.bits .or .u64 t118 1), (by first | rfl | (simp; done) | (simp only [← hji11] <;> (first | rfl | simp)) | (simp [*]; done)), (by first | rfl | (simp; done) | (simp [*]; done)), H', ⟨by have := HK1.out; omega⟩, ⟨by (with_reducible repeat (first | refine blk_drewN ?_ _ | refine blk_drew ?_ | refine blk_alloc ?_ _)); refine blk_far ?_ NB111_113.out _; (with_reducible repeat (first | refine blk_drewN ?_ _ | refine blk_drew ?_ | refine blk_alloc ?_ _)); refine blk_far ?_ NB111_113.out _; (with_reducible repeat (first | refine blk_drewN ?_ _ | refine blk_drew ?_ | refine blk_alloc ?_ _)); refine blk_far ?_ NB111_113.out _; (with_reducible repeat (first | refine blk_drewN ?_ _ | refine blk_drew ?_ | refine blk_alloc ?_ _)); exact BK111.out⟩, ⟨by (with_reducible repeat (first | refine blk_drewN ?_ _ | refine blk_drew ?_ | refine blk_alloc ?_ _)); refine blk_far ?_ NB112_113.out _; (with_reducible repeat (first | refine blk_drewN ?_ _ | refine blk_drew ?_ | refine blk_alloc ?_ _)); refine blk_far ?_ NB112_113.out _; (with_reducible repeat (first | refine blk_drewN ?_ _ | refine blk_drew ?_ | refine blk_alloc ?_ _)); refine blk_far ?_ NB112_113.out _; (with_reducible repeat (first | refine blk_drewN ?_ _ | refine blk_drew ?_ | refine blk_alloc ?_ _)); exact BK112.out⟩, ⟨by (with_reducible repeat (first | refine blk_drewN ?_ _ | refine blk_drew ?_ | refine blk_alloc ?_ _)); refine blk_put (cs := #[.int .u64 t117, .int .u64 t118]) ?_ 1 _ rfl; (with_reducible repeat (first | refine blk_drewN ?_ _ | refine blk_drew ?_ | refine blk_alloc ?_ _)); refine blk_put (cs := #[.int .u64 t117, .int .u64 x114001_1]) ?_ 1 _ rfl; (with_reducible repeat (first | refine blk_drewN ?_ _ | refine blk_drew ?_ | refine blk_alloc ?_ _)); refine blk_put (cs := #[.int .u64 x114000_1, .int .u64 x114001_1]) ?_ 0 _ rfl; (with_reducible repeat (first | refine blk_drewN ?_ _ | refine blk_drew ?_ | refine blk_alloc ?_ _)); exact BK113.out⟩, ⟨by repeat (first | (with_reducible first | exact HB.out | apply below_alloc | apply pw_below_drewN | apply below_drew1 | refine below_set ?_ GE111.out | refine below_set ?_ GE112.out | refine below_set ?_ GE113.out) | exact HB.out)⟩⟩
            · rw [if_neg c41] at H
              have c41b0 : ((x7_1 / 9223372036854775808) == 1) = false := beq_eq_false_iff_ne.mpr c41
              have c41b1 : ((x7_1 / 9223372036854775808) != 1) = true := bne_iff_ne.mpr c41
              by_cases c49 : (Go.bits .or .u64 (IntKind.u64.wrap (x7_1 * 2)) (Go.bits .and .u64 (ji11) 1)) ≥ a1
              · rw [if_pos c49] at H
                have c49b0 : decide (a1 ≤ (Go.bits .or .u64 (IntKind.u64.wrap (x7_1 * 2)) (Go.bits .and .u64 (ji11) 1))) = true := decide_eq_true c49
                clear c49
                have H' := Aside0.mk H
                clear H
                have hnb50 := NB111_112.out
                have hnc50 := NB112_111.out
                have hnb51 := NB111_113.out
                have hnc51 := NB113_111.out
                have hcz52_0 : wr.cell? ⟨gb111, 0, none⟩ = some (.int .u64 a0_0) := (blk_cell BK111.out 0).trans rfl
                have hcz52_1 : wr.cell? ⟨gb111, 1, none⟩ = some (.int .u64 a0_1) := (blk_cell BK111.out 1).trans rfl
                have hfz52_0 := blk_frozen BK111.out 0
                have hfz52_1 := blk_frozen BK111.out 1
                have hnb53 := NB113_112.out
                have hnc53 := NB112_113.out
                have hcz54_0 : wr.cell? ⟨gb113, 0, none⟩ = some (.int .u64 x114000_1) := (blk_cell BK113.out 0).trans rfl
                have hcz54_1 : wr.cell? ⟨gb113, 1, none⟩ = some (.int .u64 x114001_1) := (blk_cell BK113.out 1).trans rfl
                have hfz54_0 := blk_frozen BK113.out 0
                have hfz54_1 := blk_frozen BK113.out 1
                go_wp2_with (first | ((with_reducible refine gate_callee (f := 26) rfl ?_); refine goesL_ (some 39) rfl rfl Try.func26 (by kernel_rfl) rfl #[.agg #[.int .u64 x114000_1, .int .u64 x114001_1], .agg #[.int .u64 x114000_1, .int .u64 x114001_1]] rfl (by (try simp only [List.map_toArray, List.map_cons, List.map_nil]); first | done | rfl | (simp only [List.length_drop, List.length_take]; rfl)) ?_; (with_reducible refine (customsref01_Add.calls x114000_1 x114001_1 x114000_1 x114001_1 t117 t118 t119 _ A40.out).mono ?_); rintro e w55 ⟨rfl, hb⟩; refine ⟨_, rfl, ?_⟩; have n0_ := Aside0.mk (blk_below (g := gb111) (o := .cells #[.int .u64 a0_0, .int .u64 a0_1] 30 (0, 0)) (by (with_reducible repeat (first | refine blk_drewN ?_ _ | refine blk_drew ?_ | refine blk_alloc ?_ _)); exact BK111.out) hb); have n1_ := Aside0.mk (blk_below (g := gb112) (o := .cells #[.int .u64 0, .int .u64 0] 30 (0, 0)) (by (with_reducible repeat (first | refine blk_drewN ?_ _ | refine blk_drew ?_ | refine blk_alloc ?_ _)); exact BK112.out) hb); have n2_ := Aside0.mk (blk_below (g := gb113) (o := .cells #[.int .u64 x114000_1, .int .u64 x114001_1] 30 (0, 0)) (by (with_reducible repeat (first | refine blk_drewN ?_ _ | refine blk_drew ?_ | refine blk_alloc ?_ _)); exact BK113.out) hb); have n3_ := Aside0.mk (below_step (by repeat (first | (with_reducible first | exact HB.out | apply below_alloc | apply pw_below_drewN | apply below_drew1 | refine below_set ?_ GE111.out | refine below_set ?_ GE112.out | refine below_set ?_ GE113.out) | exact HB.out)) hb); clear BK111; clear BK112; clear BK113; clear HB; have BK111 := n0_; have BK112 := n1_; have BK113 := n2_; have HB := n3_; clear n0_ n1_ n2_ n3_; (try clear hb); (try clear hb2); (try clear hk); (try clear hi); have hcz56_0 : w55.cell? ⟨gb113, 0, none⟩ = some (.int .u64 x114000_1) := (blk_cell BK113.out 0).trans rfl; have hcz56_1 : w55.cell? ⟨gb113, 1, none⟩ = some (.int .u64 x114001_1) := (blk_cell BK113.out 1).trans rfl; have hfz56_0 := blk_frozen BK113.out 0; have hfz56_1 := blk_frozen BK113.out 1))
                go_roundg k1
                case measure => have := HK1.out; omega
                case rel => exact ⟨(IntKind.u64.wrap ((Go.bits .or .u64 (IntKind.u64.wrap (x7_1 * 2)) (Go.bits .and .u64 (ji11) 1)) - a1)), (wrap64 (x8_1 - 1)), (t117), (Go.bits .or .u64 t118 1), (by first | rfl | (simp; done) | (simp only [← hji11] <;> (first | rfl | simp)) | (simp [*]; done)), (by first | rfl | (simp; done) | (simp [*]; done)), H', ⟨by have := HK1.out; omega⟩, ⟨by (with_reducible repeat (first | refine blk_drewN ?_ _ | refine blk_drew ?_ | refine blk_alloc ?_ _)); refine blk_far ?_ NB111_113.out _; (with_reducible repeat (first | refine blk_drewN ?_ _ | refine blk_drew ?_ | refine blk_alloc ?_ _)); refine blk_far ?_ NB111_113.out _; (with_reducible repeat (first | refine blk_drewN ?_ _ | refine blk_drew ?_ | refine blk_alloc ?_ _)); refine blk_far ?_ NB111_113.out _; (with_reducible repeat (first | refine blk_drewN ?_ _ | refine blk_drew ?_ | refine blk_alloc ?_ _)); exact BK111.out⟩, ⟨by (with_reducible repeat (first | refine blk_drewN ?_ _ | refine blk_drew ?_ | refine blk_alloc ?_ _)); refine blk_far ?_ NB112_113.out _; (with_reducible repeat (first | refine blk_drewN ?_ _ | refine blk_drew ?_ | refine blk_alloc ?_ _)); refine blk_far ?_ NB112_113.out _; (with_reducible repeat (first | refine blk_drewN ?_ _ | refine blk_drew ?_ | refine blk_alloc ?_ _)); refine blk_far ?_ NB112_113.out _; (with_reducible repeat (first | refine blk_drewN ?_ _ | refine blk_drew ?_ | refine blk_alloc ?_ _)); exact BK112.out⟩, ⟨by (with_reducible repeat (first | refine blk_drewN ?_ _ | refine blk_drew ?_ | refine blk_alloc ?_ _)); refine blk_put (cs := #[.int .u64 t117, .int .u64 t118]) ?_ 1 _ rfl; (with_reducible repeat (first | refine blk_drewN ?_ _ | refine blk_drew ?_ | refine blk_alloc ?_ _)); refine blk_put (cs := #[.int .u64 t117, .int .u64 x114001_1]) ?_ 1 _ rfl; (with_reducible repeat (first | refine blk_drewN ?_ _ | refine blk_drew ?_ | refine blk_alloc ?_ _)); refine blk_put (cs := #[.int .u64 x114000_1, .int .u64 x114001_1]) ?_ 0 _ rfl; (with_reducible repeat (first | refine blk_drewN ?_ _ | refine blk_drew ?_ | refine blk_alloc ?_ _)); exact BK113.out⟩, ⟨by repeat (first | (with_reducible first | exact HB.out | apply below_alloc | apply pw_below_drewN | apply below_drew1 | refine below_set ?_ GE111.out | refine below_set ?_ GE112.out | refine below_set ?_ GE113.out) | exact HB.out)⟩⟩
              · rw [if_neg c49] at H
                have c49b0 : decide (a1 ≤ (Go.bits .or .u64 (IntKind.u64.wrap (x7_1 * 2)) (Go.bits .and .u64 (ji11) 1))) = false := decide_eq_false c49
                clear c49
                have H' := Aside0.mk H
                clear H
                have hnb57 := NB111_112.out
                have hnc57 := NB112_111.out
                have hnb58 := NB111_113.out
                have hnc58 := NB113_111.out
                have hcz59_0 : wr.cell? ⟨gb111, 0, none⟩ = some (.int .u64 a0_0) := (blk_cell BK111.out 0).trans rfl
                have hcz59_1 : wr.cell? ⟨gb111, 1, none⟩ = some (.int .u64 a0_1) := (blk_cell BK111.out 1).trans rfl
                have hfz59_0 := blk_frozen BK111.out 0
                have hfz59_1 := blk_frozen BK111.out 1
                have hnb60 := NB113_112.out
                have hnc60 := NB112_113.out
                have hcz61_0 : wr.cell? ⟨gb113, 0, none⟩ = some (.int .u64 x114000_1) := (blk_cell BK113.out 0).trans rfl
                have hcz61_1 : wr.cell? ⟨gb113, 1, none⟩ = some (.int .u64 x114001_1) := (blk_cell BK113.out 1).trans rfl
                have hfz61_0 := blk_frozen BK113.out 0
                have hfz61_1 := blk_frozen BK113.out 1
                go_wp2_with (first | ((with_reducible refine gate_callee (f := 26) rfl ?_); refine goesL_ (some 39) rfl rfl Try.func26 (by kernel_rfl) rfl #[.agg #[.int .u64 x114000_1, .int .u64 x114001_1], .agg #[.int .u64 x114000_1, .int .u64 x114001_1]] rfl (by (try simp only [List.map_toArray, List.map_cons, List.map_nil]); first | done | rfl | (simp only [List.length_drop, List.length_take]; rfl)) ?_; (with_reducible refine (customsref01_Add.calls x114000_1 x114001_1 x114000_1 x114001_1 t117 t118 t119 _ A40.out).mono ?_); rintro e w62 ⟨rfl, hb⟩; refine ⟨_, rfl, ?_⟩; have n0_ := Aside0.mk (blk_below (g := gb111) (o := .cells #[.int .u64 a0_0, .int .u64 a0_1] 30 (0, 0)) (by (with_reducible repeat (first | refine blk_drewN ?_ _ | refine blk_drew ?_ | refine blk_alloc ?_ _)); exact BK111.out) hb); have n1_ := Aside0.mk (blk_below (g := gb112) (o := .cells #[.int .u64 0, .int .u64 0] 30 (0, 0)) (by (with_reducible repeat (first | refine blk_drewN ?_ _ | refine blk_drew ?_ | refine blk_alloc ?_ _)); exact BK112.out) hb); have n2_ := Aside0.mk (blk_below (g := gb113) (o := .cells #[.int .u64 x114000_1, .int .u64 x114001_1] 30 (0, 0)) (by (with_reducible repeat (first | refine blk_drewN ?_ _ | refine blk_drew ?_ | refine blk_alloc ?_ _)); exact BK113.out) hb); have n3_ := Aside0.mk (below_step (by repeat (first | (with_reducible first | exact HB.out | apply below_alloc | apply pw_below_drewN | apply below_drew1 | refine below_set ?_ GE111.out | refine below_set ?_ GE112.out | refine below_set ?_ GE113.out) | exact HB.out)) hb); clear BK111; clear BK112; clear BK113; clear HB; have BK111 := n0_; have BK112 := n1_; have BK113 := n2_; have HB := n3_; clear n0_ n1_ n2_ n3_; (try clear hb); (try clear hb2); (try clear hk); (try clear hi); have hcz63_0 : w62.cell? ⟨gb113, 0, none⟩ = some (.int .u64 x114000_1) := (blk_cell BK113.out 0).trans rfl; have hcz63_1 : w62.cell? ⟨gb113, 1, none⟩ = some (.int .u64 x114001_1) := (blk_cell BK113.out 1).trans rfl; have hfz63_0 := blk_frozen BK113.out 0; have hfz63_1 := blk_frozen BK113.out 1))
                go_roundg k1
                case measure => have := HK1.out; omega
                case rel => exact ⟨(Go.bits .or .u64 (IntKind.u64.wrap (x7_1 * 2)) (Go.bits .and .u64 (ji11) 1)), (wrap64 (x8_1 - 1)), (t117), (t118), (by first | rfl | (simp; done) | (simp only [← hji11] <;> (first | rfl | simp)) | (simp [*]; done)), (by first | rfl | (simp; done) | (simp [*]; done)), H', ⟨by have := HK1.out; omega⟩, ⟨by (with_reducible repeat (first | refine blk_drewN ?_ _ | refine blk_drew ?_ | refine blk_alloc ?_ _)); refine blk_far ?_ NB111_113.out _; (with_reducible repeat (first | refine blk_drewN ?_ _ | refine blk_drew ?_ | refine blk_alloc ?_ _)); refine blk_far ?_ NB111_113.out _; (with_reducible repeat (first | refine blk_drewN ?_ _ | refine blk_drew ?_ | refine blk_alloc ?_ _)); exact BK111.out⟩, ⟨by (with_reducible repeat (first | refine blk_drewN ?_ _ | refine blk_drew ?_ | refine blk_alloc ?_ _)); refine blk_far ?_ NB112_113.out _; (with_reducible repeat (first | refine blk_drewN ?_ _ | refine blk_drew ?_ | refine blk_alloc ?_ _)); refine blk_far ?_ NB112_113.out _; (with_reducible repeat (first | refine blk_drewN ?_ _ | refine blk_drew ?_ | refine blk_alloc ?_ _)); exact BK112.out⟩, ⟨by (with_reducible repeat (first | refine blk_drewN ?_ _ | refine blk_drew ?_ | refine blk_alloc ?_ _)); refine blk_put (cs := #[.int .u64 t117, .int .u64 x114001_1]) ?_ 1 _ rfl; (with_reducible repeat (first | refine blk_drewN ?_ _ | refine blk_drew ?_ | refine blk_alloc ?_ _)); refine blk_put (cs := #[.int .u64 x114000_1, .int .u64 x114001_1]) ?_ 0 _ rfl; (with_reducible repeat (first | refine blk_drewN ?_ _ | refine blk_drew ?_ | refine blk_alloc ?_ _)); exact BK113.out⟩, ⟨by repeat (first | (with_reducible first | exact HB.out | apply below_alloc | apply pw_below_drewN | apply below_drew1 | refine below_set ?_ GE111.out | refine below_set ?_ GE112.out | refine below_set ?_ GE113.out) | exact HB.out)⟩⟩
        · rw [if_neg c10] at H
          exact absurd H (by simp)
      · rw [if_neg c9] at H
        have c9b0 : decide (0 ≤ x8_1) = false := decide_eq_false c9
        clear c9
        simp only [Option.some.injEq, Prod.mk.injEq] at H
        obtain ⟨rfl, rfl, rfl⟩ := H
        have hnb64 := NB113_111.out
        have hnc64 := NB111_113.out
        have hnb65 := NB113_112.out
        have hnc65 := NB112_113.out
        have hcz66_0 : wr.cell? ⟨gb113, 0, none⟩ = some (.int .u64 x114000_1) := (blk_cell BK113.out 0).trans rfl
        have hcz66_1 : wr.cell? ⟨gb113, 1, none⟩ = some (.int .u64 x114001_1) := (blk_cell BK113.out 1).trans rfl
        have hfz66_0 := blk_frozen BK113.out 0
        have hfz66_1 := blk_frozen BK113.out 1
        have hnb67 := NB112_111.out
        have hnc67 := NB111_112.out
        have hcz68_0 : wr.cell? ⟨gb112, 0, none⟩ = some (.int .u64 0) := (blk_cell BK112.out 0).trans rfl
        have hcz68_1 : wr.cell? ⟨gb112, 1, none⟩ = some (.int .u64 0) := (blk_cell BK112.out 1).trans rfl
        have hfz68_0 := blk_frozen BK112.out 0
        have hfz68_1 := blk_frozen BK112.out 1
        go_wp2
        refine bodyPost_ret (results_ct rfl _ _ gb112 30 #[.int .u64 x114000_1, .int .u64 x114001_1] (0, 0) _ rfl (by (with_reducible repeat (first | refine blk_drewN ?_ _ | refine blk_drew ?_ | refine blk_alloc ?_ _)); refine blk_put (cs := #[.int .u64 x114000_1, .int .u64 0]) ?_ 1 _ rfl; (with_reducible repeat (first | refine blk_drewN ?_ _ | refine blk_drew ?_ | refine blk_alloc ?_ _)); refine blk_put (cs := #[.int .u64 0, .int .u64 0]) ?_ 0 _ rfl; (with_reducible repeat (first | refine blk_drewN ?_ _ | refine blk_drew ?_ | refine blk_alloc ?_ _)); exact BK112.out) Try.underlying30 rfl (by kernel_rfl)) rfl ?_
        exact ⟨by first | rfl | (simp [errW_none, errW_some] <;> rfl) | (simp [*, errW_none, errW_some] <;> rfl) | (simp (disch := first | assumption | omega) only [Int.tdiv_eq_ediv_of_nonneg, Int.tmod_eq_emod_of_nonneg]; rfl), by repeat (first | (with_reducible first | exact HB.out | apply below_alloc | apply pw_below_drewN | apply below_drew1 | refine below_set ?_ GE111.out | refine below_set ?_ GE112.out | refine below_set ?_ GE113.out) | exact HB.out)⟩

end Go.Proofs.Ytcoininpcicgmaa.PX
