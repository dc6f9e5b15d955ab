/- Texts of this session joined by a small program: plain Lean functions with the answers of Go functions of this seat, proofs that the machine's calls come to them, and plain laws over them that the claim LatentPortion uses. -/
import Derived.Test.YthbkooonlhldnaaProg
import Derived.RegionTactic
import Derived.Maps.Own
import Derived.Maps.OwnOps
import Derived.Maps.OwnSet
import Derived.Laws.Externs
import Derived.WalkLawsBesides
import Derived.Deep.RegionLaw
import Derived.IntWalk
import Derived.Below
import Derived.Deep.Draws
import Derived.Deep.AppendLies
import Derived.Maps.AppendAt
import Derived.OwnWalk
import Derived.Laws.BytesArg
import Derived.Laws.MakeOwn
import Derived.Laws.OwnMore
import Derived.Deep.OwnRows
import Derived.Tactics
import Derived.Lib.ConvBytes
import Derived.Laws.Slices
import Derived.WalkKit
import Derived.KernelRfl
import Derived.RowKit3
import Derived.Deep.LoopGhost
import Derived.Deep.QuietTactic
import Derived.BigQuiet
import Derived.WideLaws
import Derived.Deep.DeepCutAuto
import Derived.Deep.CutBlock
import Derived.Deep.RegionHeld3
import Derived.Laws.Rows
import Derived.Lib.AppendStr
import Derived.ArgAppend
import Derived.Laws.IdiomCopy
import Derived.OrdersHeld
import Derived.Laws.BitsLemmas
import Derived.RowKit
import Derived.Test.YthbkooonlhldnaaWWords
import Derived.Test.YthbkooonlhldnaaWLast
import Derived.Test.YthbkooonlhldnaaWTab
import Derived.Test.YthbkooonlhldnaaWFour
import Derived.Test.YthbkooonlhldnaaWQPut
import Derived.Test.YthbkooonlhldnaaWApart
import Derived.Test.YthbkooonlhldnaaWArr
import Derived.Test.YthbkooonlhldnaaWZeros
import Derived.Test.YthbkooonlhldnaaWFoot
import Derived.Test.YthbkooonlhldnaaWKept
import Derived.Test.YthbkooonlhldnaaWShare
import Derived.Test.YthbkooonlhldnaaWN
import Derived.Test.YthbkooonlhldnaaWFootNe
import Derived.Test.YthbkooonlhldnaaWAt
import Derived.Test.YthbkooonlhldnaaWEqStruct
import Derived.Test.YthbkooonlhldnaaWRepsOne
import Derived.Test.YthbkooonlhldnaaWInv
import Derived.Test.YthbkooonlhldnaaWInvWords
import Derived.Test.YthbkooonlhldnaaWGuard
import Derived.Test.YthbkooonlhldnaaWNEv
import Derived.Test.YthbkooonlhldnaaWMore
import Derived.Laws.Bits64
import Derived.Test.YthbkooonlhldnaaMLatentPortion1
section
namespace Go.Proofs.Ythbkooonlhldnaa.PX
open Go.RowKit Go.Proofs.YthbkooonlhldnaaW.PrintWords Go.Proofs.YthbkooonlhldnaaW.PrintLast Go.Proofs.YthbkooonlhldnaaW.PrintMore
attribute [local go_sem] max2_int min2_int max_two min_two max_three min_three max_four min_four   -- for this text's walks alone
set_option linter.unusedVariables false
set_option linter.unusedSimpArgs false

/-! ### lot_Valid: function 21 -/
def lot_Valid.l0 : Nat → List (S45) → List (S45) → Int → Int → Option (Int)
  | 0, _, _, _, _ => none
  | k + 1, x0, x8, x9, x10 => if x10 < x9 then (if 0 ≤ x10 then (if x10 < (x8.length : Int) then ((lot_validSlice.f ((rd_T45 x8 x10).f0) ((rd_T45 x8 x10).f1) ((rd_T45 x8 x10).f2)).bind fun t131 => (if t131 = true then (lot_Valid.l0 k x0 x8 x9 (wrap64 (x10 + 1))) else (some 2))) else (none)) else (none)) else ((lot_repeated.f (([x0] : List (List (S45))))).bind fun t135 => (if t135 = true then (some 13) else (some 0)))
def lot_Valid.f (k : Nat) (l0 : List (S45)) : Option (Int) := if (l0.length : Int) > 64 then (some 8) else (lot_Valid.l0 k l0 l0 (l0.length : Int) 0)
theorem lot_Valid.mono_l : ∀ k, (∀ y0 y1 y2 y3, LeO (lot_Valid.l0 k y0 y1 y2 y3) (lot_Valid.l0 (k + 1) y0 y1 y2 y3))
  | 0 => fun _ _ _ _ r h => by simp [lot_Valid.l0] at h
  | k + 1 => by
    have ih0 := lot_Valid.mono_l k
    · intro y0 y1 y2 y3
      unfold lot_Valid.l0
      repeat' first
      | (with_reducible exact ih0 _ _ _ _)
      | (with_reducible exact LeO.refl _)
      | (with_reducible exact LeO.none _)
      | (with_reducible refine LeO.ite ?_ ?_)
      | (with_reducible refine LeO.bind ?_ (fun _ => ?_))
      | exact ih0 _ _ _ _
      | exact LeO.none _
      | refine LeO.ite ?_ ?_
      | refine LeO.bind ?_ (fun _ => ?_)
theorem lot_Valid.mono : ∀ a0 k, LeO (lot_Valid.f k a0) (lot_Valid.f (k + 1) a0) := by
  intro a0 k
  have ih0 := lot_Valid.mono_l k
  unfold lot_Valid.f
  repeat' first
      | (with_reducible exact ih0 _ _ _ _)
      | (with_reducible exact LeO.refl _)
      | (with_reducible exact LeO.none _)
      | (with_reducible refine LeO.ite ?_ ?_)
      | (with_reducible refine LeO.bind ?_ (fun _ => ?_))
      | exact ih0 _ _ _ _
      | exact LeO.none _
      | refine LeO.ite ?_ ?_
      | refine LeO.bind ?_ (fun _ => ?_)
set_option maxHeartbeats 8000000 in
set_option maxRecDepth 100000 in
theorem lot_Valid.calls (k : Nat) (P0_ : Nat → Prop) (A0 : Option Addr) (c0 : Nat) (l0 : List (S45)) (r : Int) (w : World) (hs0 : Kd.V k45 45 w w.heap.size (fun k_ => P0_ k_) (.slice A0 l0.length c0) l0) (h : lot_Valid.f k l0 = some r) :
    Calls Try.prog 21 #[.slice A0 l0.length c0] w fun e w' => e = .returned (.int .i64 r) ∧ Below w.heap.size w w' := by
  have hu45 := Try.underlying45
  have HO0 := Aside0.mk (show Kd.V k45 45 w w.heap.size (fun k_ => (P0_ k_ ∨ w.heap.size ≤ k_)) (.slice A0 l0.length c0) l0 from Kd.V_mono hs0 (fun k_ hk => .inl hk))
  have HB := Aside0.mk (Below.refl w.heap.size w)
  have H : (if (l0.length : Int) > 64 then (some 8) else (lot_Valid.l0 k l0 l0 (l0.length : Int) 0)) = some r := h
  clear h
  by_cases c2 : (l0.length : Int) > 64
  · rw [if_pos c2] at H
    have c2b0 : decide (64 < (l0.length : Int)) = true := decide_eq_true c2
    have c2b1 : decide (64 < l0.length) = true := decide_eq_true (by omega)
    clear c2
    obtain rfl := Option.some.inj H
    go_enter Try.func21, Try.ntmps21
    go_wp2
    go_ret
    exact ⟨by first | rfl | (simp [errW_none, errW_some] <;> rfl) | (simp [*, errW_none, errW_some] <;> rfl) | (simp (disch := first | assumption | omega) only [Int.tdiv_eq_ediv_of_nonneg, Int.tmod_eq_emod_of_nonneg]; rfl), by repeat (first | (with_reducible first | exact HB.out | apply below_alloc | apply pw_below_drewN | apply below_drew1) | exact HB.out)⟩
  · rw [if_neg c2] at H
    have c2b0 : decide (64 < (l0.length : Int)) = false := decide_eq_false c2
    have c2b1 : decide (64 < l0.length) = false := decide_eq_false (by omega)
    clear c2
    have H' := Aside0.mk H
    clear H
    go_enter Try.func21, Try.ntmps21
    go_wp2
    go_loopg [10] k (fun kq v10 w' => ∃ (x10_1 : Int), v10 = .int .i64 x10_1 ∧ Aside0 (lot_Valid.l0 kq l0 l0 (l0.length : Int) x10_1 = some r) ∧ Aside0 (kq ≤ k) ∧ Aside0 (Kd.V k45 45 w' w.heap.size (fun k_ => (P0_ k_ ∨ w.heap.size ≤ k_)) (.slice A0 l0.length c0) l0) ∧ Aside0 (Kd.V k45 45 w' w.heap.size (fun k_ => (P0_ k_ ∨ w.heap.size ≤ k_)) (.slice A0 l0.length c0) l0) ∧ Aside0 (Below w.heap.size w w'))
    case atStart => exact ⟨(0), (by first | rfl | (simp; done) | (simp [*]; done)), H', ⟨Nat.le_refl _⟩, ⟨by (with_reducible repeat (first | apply Kd.V_alloc | apply Kd.V_drewN | apply Kd.V_drew)); exact HO0.out⟩, ⟨by (with_reducible repeat (first | apply Kd.V_alloc | apply Kd.V_drewN | apply Kd.V_drew)); exact HO0.out⟩, ⟨by repeat (first | (with_reducible first | exact HB.out | apply below_alloc | apply pw_below_drewN | apply below_drew1) | exact HB.out)⟩⟩
    case round =>
      clear H'
      try clear c2
      try clear c2b0
      try clear c2b1
      try clear p2
      obtain ⟨x10_1, rfl, HA, HK1, HO_0, HO_8, HB⟩ := hrel
      cases gk with
      | zero => exact absurd HA.out (by simp [lot_Valid.l0])
      | succ k1 =>
        have H := HA.out
        clear HA
        simp only [lot_Valid.l0] at H
        by_cases c3 : x10_1 < (l0.length : Int)
        · rw [if_pos c3] at H
          have c3b0 : decide (x10_1 < (l0.length : Int)) = true := decide_eq_true c3
          clear c3
          by_cases c4 : 0 ≤ x10_1
          · rw [if_pos c4] at H
            have c4b0 : decide (0 ≤ x10_1) = true := decide_eq_true c4
            clear c4
            by_cases c5 : x10_1 < (l0.length : Int)
            · rw [if_pos c5] at H
              have c5b0 : decide (x10_1 < (l0.length : Int)) = true := decide_eq_true c5
              clear c5
              replace H := Option.bind_eq_some_iff.mp H
              obtain ⟨t131, A60, H⟩ := H
              replace H : (if t131 = true then (lot_Valid.l0 k1 l0 l0 (l0.length : Int) (wrap64 (x10_1 + 1))) else (some 2)) = some r := H
              have A6 := Aside0.mk A60
              clear A60
              by_cases c7 : t131 = true
              · subst c7
                have H1 : (lot_Valid.l0 k1 l0 l0 (l0.length : Int) (wrap64 (x10_1 + 1))) = some r := by rw [if_pos rfl] at H; exact H
                clear H
                have H := H1
                clear H1
                have H' := Aside0.mk H
                clear H
                have p129 : 0 ≤ (x10_1 : Int) := of_decide_eq_true (by first | (with_reducible assumption) | assumption)
                have q129 : x10_1 < (l0.length : Int) := of_decide_eq_true (by first | (with_reducible assumption) | assumption)
                obtain ⟨ad129, e129, hx129_0, hx129_1, hx129_2⟩ := at_T45 (Kd.V_reads' HO_8.out).2.2 x10_1 p129 q129
                cases e129
                replace p129 := eq_true p129
                replace q129 := eq_true q129
                go_wp2_with (first | ((with_reducible refine gate_dst (N := 4) rfl ?_); refine box_event ?hg (N := 4) ?hd (cs := #[.int .i64 0, .int .i64 0, .int .i64 0]) (t := 45) ?hr ?_; (case hd => rfl); (case hg => rfl); (case hr => first | (go_simp; done) | (go_simp; rfl)); intro gb130 hg w8 hbox hb; have n0_ := Aside0.mk (Kd.V_below (Kd.V_elderB (by (with_reducible repeat (first | apply Kd.V_alloc | apply Kd.V_drewN | apply Kd.V_drew)); exact HO_0.out) gb130 (Nat.le_of_eq hg.symm)) hb); have n1_ := Aside0.mk (Kd.V_below (Kd.V_elderB (by (with_reducible repeat (first | apply Kd.V_alloc | apply Kd.V_drewN | apply Kd.V_drew)); exact HO_8.out) gb130 (Nat.le_of_eq hg.symm)) hb); have n2_ := Aside0.mk (below_step (by repeat (first | (with_reducible first | exact HB.out | apply below_alloc | apply pw_below_drewN | apply below_drew1) | exact HB.out)) hb); have n3_ := Aside0.mk (hbox); have n4_ := Aside0.mk ((by rw [hg]; exact (below_size (by repeat (first | (with_reducible first | exact HB.out | apply below_alloc | apply pw_below_drewN | apply below_drew1) | exact HB.out))) : w.heap.size ≤ gb130)); have n5_ := Aside0.mk ((by rw [hg]; exact (below_size (by repeat (first | (with_reducible first | exact HB.out | apply below_alloc | apply pw_below_drewN | apply below_drew1) | exact HB.out))) : w.heap.size ≤ gb130)); clear HO_0; clear HO_8; clear HB; have HO_0 := n0_; have HO_8 := n1_; have HB := n2_; have BK130 := n3_; have GW130 := n4_; have GE130 := n5_; clear n0_ n1_ n2_ n3_ n4_ n5_; clear hb hbox hg; have hcz9_0 : w8.cell? ⟨gb130, 0, none⟩ = some (.int .i64 0) := (blk_cell BK130.out 0).trans rfl; have hcz9_1 : w8.cell? ⟨gb130, 1, none⟩ = some (.int .i64 0) := (blk_cell BK130.out 1).trans rfl; have hcz9_2 : w8.cell? ⟨gb130, 2, none⟩ = some (.int .i64 0) := (blk_cell BK130.out 2).trans rfl; have hfz9_0 := blk_frozen BK130.out 0; have hfz9_1 := blk_frozen BK130.out 1; have hfz9_2 := blk_frozen BK130.out 2) | ((with_reducible refine gate_callee (f := 26) rfl ?_); refine goesL_ (some 15) rfl rfl Try.func26 (by kernel_rfl) rfl #[.agg #[.int .i64 ((rd_T45 l0 x10_1).f0), .int .i64 ((rd_T45 l0 x10_1).f1), .int .i64 ((rd_T45 l0 x10_1).f2)]] rfl (by (try simp only [List.map_toArray, List.map_cons, List.map_nil]); first | done | rfl | (simp only [List.length_drop, List.length_take]; rfl)) ?_; (with_reducible refine (lot_validSlice.calls ((rd_T45 l0 x10_1).f0) ((rd_T45 l0 x10_1).f1) ((rd_T45 l0 x10_1).f2) true _ A6.out).mono ?_); rintro e w10 ⟨rfl, hb⟩; refine ⟨_, rfl, ?_⟩; have n0_ := Aside0.mk (Kd.V_below (by (with_reducible repeat (first | apply Kd.V_alloc | apply Kd.V_drewN | apply Kd.V_drew)); exact (Kd.V_mono (Kd.V_far (p := ⟨gb130, 2, none⟩) (Kd.V_far (p := ⟨gb130, 1, none⟩) (Kd.V_far (p := ⟨gb130, 0, none⟩) (Kd.V_mono HO_0.out (fun k_ hk => (⟨hk, hk.2⟩ : _ ∧ k_ ≠ gb130))) (fun _ hk => hk.2) (.int .i64 ((rd_T45 l0 x10_1).f0))) (fun _ hk => hk.2) (.int .i64 ((rd_T45 l0 x10_1).f1))) (fun _ hk => hk.2) (.int .i64 ((rd_T45 l0 x10_1).f2))) (fun _ h_ => h_.1))) hb); have n1_ := Aside0.mk (Kd.V_below (by (with_reducible repeat (first | apply Kd.V_alloc | apply Kd.V_drewN | apply Kd.V_drew)); exact (Kd.V_mono (Kd.V_far (p := ⟨gb130, 2, none⟩) (Kd.V_far (p := ⟨gb130, 1, none⟩) (Kd.V_far (p := ⟨gb130, 0, none⟩) (Kd.V_mono HO_8.out (fun k_ hk => (⟨hk, hk.2⟩ : _ ∧ k_ ≠ gb130))) (fun _ hk => hk.2) (.int .i64 ((rd_T45 l0 x10_1).f0))) (fun _ hk => hk.2) (.int .i64 ((rd_T45 l0 x10_1).f1))) (fun _ hk => hk.2) (.int .i64 ((rd_T45 l0 x10_1).f2))) (fun _ h_ => h_.1))) hb); have n2_ := Aside0.mk (blk_below (g := gb130) (o := .cells #[.int .i64 ((rd_T45 l0 x10_1).f0), .int .i64 ((rd_T45 l0 x10_1).f1), .int .i64 ((rd_T45 l0 x10_1).f2)] 45 (0, 0)) (by (with_reducible repeat (first | refine blk_drewN ?_ _ | refine blk_drew ?_ | refine blk_alloc ?_ _)); refine blk_put (cs := #[.int .i64 ((rd_T45 l0 x10_1).f0), .int .i64 ((rd_T45 l0 x10_1).f1), .int .i64 0]) ?_ 2 _ rfl; (with_reducible repeat (first | refine blk_drewN ?_ _ | refine blk_drew ?_ | refine blk_alloc ?_ _)); refine blk_put (cs := #[.int .i64 ((rd_T45 l0 x10_1).f0), .int .i64 0, .int .i64 0]) ?_ 1 _ rfl; (with_reducible repeat (first | refine blk_drewN ?_ _ | refine blk_drew ?_ | refine blk_alloc ?_ _)); refine blk_put (cs := #[.int .i64 0, .int .i64 0, .int .i64 0]) ?_ 0 _ rfl; (with_reducible repeat (first | refine blk_drewN ?_ _ | refine blk_drew ?_ | refine blk_alloc ?_ _)); exact BK130.out) hb); have n3_ := Aside0.mk (below_step (by repeat (first | (with_reducible first | exact HB.out | apply below_alloc | apply pw_below_drewN | apply below_drew1 | refine below_set ?_ GE130.out) | exact HB.out)) hb); clear HO_0; clear HO_8; clear BK130; clear HB; have HO_0 := n0_; have HO_8 := n1_; have BK130 := n2_; have HB := n3_; clear n0_ n1_ n2_ n3_; (try clear hb); (try clear hb2); (try clear hk); (try clear hi)))
                go_roundg k1
                case measure => have := HK1.out; omega
                case rel => exact ⟨(wrap64 (x10_1 + 1)), (by first | rfl | (simp; done) | (simp [*]; done)), H', ⟨by have := HK1.out; omega⟩, ⟨by (with_reducible repeat (first | apply Kd.V_alloc | apply Kd.V_drewN | apply Kd.V_drew)); exact Kd.V_mono HO_0.out (fun _ hk => hk.1)⟩, ⟨by (with_reducible repeat (first | apply Kd.V_alloc | apply Kd.V_drewN | apply Kd.V_drew)); exact Kd.V_mono HO_8.out (fun _ hk => hk.1)⟩, ⟨by repeat (first | (with_reducible first | exact HB.out | apply below_alloc | apply pw_below_drewN | apply below_drew1 | refine below_set ?_ GE130.out) | exact HB.out)⟩⟩
              · replace c7 := Bool.eq_false_iff.mpr c7
                subst c7
                have H1 : (some 2) = some r := by rw [if_neg (show ¬ (false = true) by decide)] at H; exact H
                clear H
                have H := H1
                clear H1
                obtain rfl := Option.some.inj H
                have p129 : 0 ≤ (x10_1 : Int) := of_decide_eq_true (by first | (with_reducible assumption) | assumption)
                have q129 : x10_1 < (l0.length : Int) := of_decide_eq_true (by first | (with_reducible assumption) | assumption)
                obtain ⟨ad129, e129, hx129_0, hx129_1, hx129_2⟩ := at_T45 (Kd.V_reads' HO_8.out).2.2 x10_1 p129 q129
                cases e129
                replace p129 := eq_true p129
                replace q129 := eq_true q129
                go_wp2_with (first | ((with_reducible refine gate_dst (N := 4) rfl ?_); refine box_event ?hg (N := 4) ?hd (cs := #[.int .i64 0, .int .i64 0, .int .i64 0]) (t := 45) ?hr ?_; (case hd => rfl); (case hg => rfl); (case hr => first | (go_simp; done) | (go_simp; rfl)); intro gb130 hg w11 hbox hb; have n0_ := Aside0.mk (Kd.V_below (Kd.V_elderB (by (with_reducible repeat (first | apply Kd.V_alloc | apply Kd.V_drewN | apply Kd.V_drew)); exact HO_0.out) gb130 (Nat.le_of_eq hg.symm)) hb); have n1_ := Aside0.mk (Kd.V_below (Kd.V_elderB (by (with_reducible repeat (first | apply Kd.V_alloc | apply Kd.V_drewN | apply Kd.V_drew)); exact HO_8.out) gb130 (Nat.le_of_eq hg.symm)) hb); have n2_ := Aside0.mk (below_step (by repeat (first | (with_reducible first | exact HB.out | apply below_alloc | apply pw_below_drewN | apply below_drew1) | exact HB.out)) hb); have n3_ := Aside0.mk (hbox); have n4_ := Aside0.mk ((by rw [hg]; exact (below_size (by repeat (first | (with_reducible first | exact HB.out | apply below_alloc | apply pw_below_drewN | apply below_drew1) | exact HB.out))) : w.heap.size ≤ gb130)); have n5_ := Aside0.mk ((by rw [hg]; exact (below_size (by repeat (first | (with_reducible first | exact HB.out | apply below_alloc | apply pw_below_drewN | apply below_drew1) | exact HB.out))) : w.heap.size ≤ gb130)); clear HO_0; clear HO_8; clear HB; have HO_0 := n0_; have HO_8 := n1_; have HB := n2_; have BK130 := n3_; have GW130 := n4_; have GE130 := n5_; clear n0_ n1_ n2_ n3_ n4_ n5_; clear hb hbox hg; have hcz12_0 : w11.cell? ⟨gb130, 0, none⟩ = some (.int .i64 0) := (blk_cell BK130.out 0).trans rfl; have hcz12_1 : w11.cell? ⟨gb130, 1, none⟩ = some (.int .i64 0) := (blk_cell BK130.out 1).trans rfl; have hcz12_2 : w11.cell? ⟨gb130, 2, none⟩ = some (.int .i64 0) := (blk_cell BK130.out 2).trans rfl; have hfz12_0 := blk_frozen BK130.out 0; have hfz12_1 := blk_frozen BK130.out 1; have hfz12_2 := blk_frozen BK130.out 2) | ((with_reducible refine gate_callee (f := 26) rfl ?_); refine goesL_ (some 15) rfl rfl Try.func26 (by kernel_rfl) rfl #[.agg #[.int .i64 ((rd_T45 l0 x10_1).f0), .int .i64 ((rd_T45 l0 x10_1).f1), .int .i64 ((rd_T45 l0 x10_1).f2)]] rfl (by (try simp only [List.map_toArray, List.map_cons, List.map_nil]); first | done | rfl | (simp only [List.length_drop, List.length_take]; rfl)) ?_; (with_reducible refine (lot_validSlice.calls ((rd_T45 l0 x10_1).f0) ((rd_T45 l0 x10_1).f1) ((rd_T45 l0 x10_1).f2) false _ A6.out).mono ?_); rintro e w13 ⟨rfl, hb⟩; refine ⟨_, rfl, ?_⟩; have n0_ := Aside0.mk (Kd.V_below (by (with_reducible repeat (first | apply Kd.V_alloc | apply Kd.V_drewN | apply Kd.V_drew)); exact (Kd.V_mono (Kd.V_far (p := ⟨gb130, 2, none⟩) (Kd.V_far (p := ⟨gb130, 1, none⟩) (Kd.V_far (p := ⟨gb130, 0, none⟩) (Kd.V_mono HO_0.out (fun k_ hk => (⟨hk, hk.2⟩ : _ ∧ k_ ≠ gb130))) (fun _ hk => hk.2) (.int .i64 ((rd_T45 l0 x10_1).f0))) (fun _ hk => hk.2) (.int .i64 ((rd_T45 l0 x10_1).f1))) (fun _ hk => hk.2) (.int .i64 ((rd_T45 l0 x10_1).f2))) (fun _ h_ => h_.1))) hb); have n1_ := Aside0.mk (Kd.V_below (by (with_reducible repeat (first | apply Kd.V_alloc | apply Kd.V_drewN | apply Kd.V_drew)); exact (Kd.V_mono (Kd.V_far (p := ⟨gb130, 2, none⟩) (Kd.V_far (p := ⟨gb130, 1, none⟩) (Kd.V_far (p := ⟨gb130, 0, none⟩) (Kd.V_mono HO_8.out (fun k_ hk => (⟨hk, hk.2⟩ : _ ∧ k_ ≠ gb130))) (fun _ hk => hk.2) (.int .i64 ((rd_T45 l0 x10_1).f0))) (fun _ hk => hk.2) (.int .i64 ((rd_T45 l0 x10_1).f1))) (fun _ hk => hk.2) (.int .i64 ((rd_T45 l0 x10_1).f2))) (fun _ h_ => h_.1))) hb); have n2_ := Aside0.mk (blk_below (g := gb130) (o := .cells #[.int .i64 ((rd_T45 l0 x10_1).f0), .int .i64 ((rd_T45 l0 x10_1).f1), .int .i64 ((rd_T45 l0 x10_1).f2)] 45 (0, 0)) (by (with_reducible repeat (first | refine blk_drewN ?_ _ | refine blk_drew ?_ | refine blk_alloc ?_ _)); refine blk_put (cs := #[.int .i64 ((rd_T45 l0 x10_1).f0), .int .i64 ((rd_T45 l0 x10_1).f1), .int .i64 0]) ?_ 2 _ rfl; (with_reducible repeat (first | refine blk_drewN ?_ _ | refine blk_drew ?_ | refine blk_alloc ?_ _)); refine blk_put (cs := #[.int .i64 ((rd_T45 l0 x10_1).f0), .int .i64 0, .int .i64 0]) ?_ 1 _ rfl; (with_reducible repeat (first | refine blk_drewN ?_ _ | refine blk_drew ?_ | refine blk_alloc ?_ _)); refine blk_put (cs := #[.int .i64 0, .int .i64 0, .int .i64 0]) ?_ 0 _ rfl; (with_reducible repeat (first | refine blk_drewN ?_ _ | refine blk_drew ?_ | refine blk_alloc ?_ _)); exact BK130.out) hb); have n3_ := Aside0.mk (below_step (by repeat (first | (with_reducible first | exact HB.out | apply below_alloc | apply pw_below_drewN | apply below_drew1 | refine below_set ?_ GE130.out) | exact HB.out)) hb); clear HO_0; clear HO_8; clear BK130; clear HB; have HO_0 := n0_; have HO_8 := n1_; have BK130 := n2_; have HB := n3_; clear n0_ n1_ n2_ n3_; (try clear hb); (try clear hb2); (try clear hk); (try clear hi)))
                go_ret
                exact ⟨by first | rfl | (simp [errW_none, errW_some] <;> rfl) | (simp [*, errW_none, errW_some] <;> rfl) | (simp (disch := first | assumption | omega) only [Int.tdiv_eq_ediv_of_nonneg, Int.tmod_eq_emod_of_nonneg]; rfl), by repeat (first | (with_reducible first | exact HB.out | apply below_alloc | apply pw_below_drewN | apply below_drew1 | refine below_set ?_ GE130.out) | exact HB.out)⟩
            · rw [if_neg c5] at H
              exact absurd H (by simp)
          · rw [if_neg c4] at H
            exact absurd H (by simp)
        · rw [if_neg c3] at H
          have c3b0 : decide (x10_1 < (l0.length : Int)) = false := decide_eq_false c3
          clear c3
          obtain ⟨y132, hy132⟩ : ∃ y_ : List (List (S45)), y_ = (([l0] : List (List (S45)))) := ⟨_, rfl⟩
          replace H : ((lot_repeated.f y132).bind fun t135 => (if t135 = true then (some 13) else (some 0))) = some r := by first | (rw [hy132]; with_reducible exact H) | (have H2_ := (Option.bind_some _ _).symm.trans H; rw [hy132]; with_reducible exact H2_) | (have H2_ := (Option.bind_some _ _).symm.trans H; with_reducible exact H2_) | with_reducible exact H | (rw [hy132]; exact H) | exact H
          have Ny132 := Aside0.mk hy132
          clear hy132
          replace H := Option.bind_eq_some_iff.mp H
          obtain ⟨t135, A140, H⟩ := H
          replace H : (if t135 = true then (some 13) else (some 0)) = some r := H
          have A14 := Aside0.mk A140
          clear A140
          by_cases c15 : t135 = true
          · subst c15
            have H1 : (some 13) = some r := by rw [if_pos rfl] at H; exact H
            clear H
            have H := H1
            clear H1
            obtain rfl := Option.some.inj H
            go_wp2_with (first | ((with_reducible refine gate_dst (N := 19) rfl ?_); refine Kd.N_lit (Kd.slice 45 k45) _ 30 ?hg (N' := 19) ?hd (xs := ([l0] : List (List (S45)))) (inner := [.slice A0 l0.length c0]) (ok := (fun k_ => (P0_ k_ ∨ w.heap.size ≤ k_))) (okp := (fun k_ => (P0_ k_ ∨ w.heap.size ≤ k_))) ?hr ?hp (fun _ hk => hk) ((show ∀ k_, wr.heap.size ≤ k_ → (fun k_ => (P0_ k_ ∨ w.heap.size ≤ k_)) k_ from fun k_ hk => (.inr (Nat.le_trans (below_size (by repeat (first | (with_reducible first | exact HB.out | apply below_alloc | apply pw_below_drewN | apply below_drew1) | exact HB.out))) hk))) _ (Nat.le_refl _)) (Below.refl _ _) (Nat.le_refl _) (by simp) ?_; (case hd => rfl); (case hg => rfl); (case hr => first | (go_simp; done) | (go_simp; rfl)); (case hp => exact (Reps.one (show Kd.FK (Kd.slice 45 k45) _ _ l0 [.slice A0 l0.length c0] from (Kd.FK_slice_mk (Kd.V_reads' (Kd.V_mono (ok' := (fun k_ => (P0_ k_ ∨ w.heap.size ≤ k_))) (HO_0.out) (fun k_ hk => hk))).2.1 (Kd.V_F (Kd.V_mono (ok' := (fun k_ => (P0_ k_ ∨ w.heap.size ≤ k_))) (HO_0.out) (fun k_ hk => hk))))) (Reps.none _ _))); intro v133 w16 ho17 hb hg_ hnew_; clear hg_ hnew_; (first | rw [← Ny132.out] at ho17 | (simp only [Int.reduceToNat] at ho17; rw [← Ny132.out] at ho17)); have n0_ := Aside0.mk (Kd.V_elder' (by (with_reducible repeat (first | apply Kd.V_alloc | apply Kd.V_drewN | apply Kd.V_drew)); exact HO_0.out) (Kd.N_base ho17) hb); have n1_ := Aside0.mk (Kd.V_elder' (by (with_reducible repeat (first | apply Kd.V_alloc | apply Kd.V_drewN | apply Kd.V_drew)); exact HO_8.out) (Kd.N_base ho17) hb); have n2_ := Aside0.mk (Kd.N_lower ho17 (below_size (by repeat (first | (with_reducible first | exact HB.out | apply below_alloc | apply pw_below_drewN | apply below_drew1) | exact HB.out)))); have n3_ := Aside0.mk (below_step (by repeat (first | (with_reducible first | exact HB.out | apply below_alloc | apply pw_below_drewN | apply below_drew1) | exact HB.out)) hb); clear HO_0; clear HO_8; clear HB; have HO_0 := n0_; have HO_8 := n1_; have HO134 := n2_; have HB := n3_; clear n0_ n1_ n2_ n3_; clear hb ho17; obtain ⟨Ao18, co18, eo18⟩ := Kd.N_slice HO134.out; subst eo18) | ((with_reducible refine gate_callee (f := 27) rfl ?_); refine goesL_ (some 20) rfl rfl Try.func27 (by kernel_rfl) rfl #[.slice Ao18 y132.length co18] rfl (by (try simp only [List.map_toArray, List.map_cons, List.map_nil]); first | done | rfl | (simp only [List.length_drop, List.length_take]; rfl)) ?_; (with_reducible refine (lot_repeated.calls _ _ y132 true _ ?side1 ?side2 A14.out).mono ?_); (case side1 => repeat (first | exact (Kd.N_reads' HO134.out).2.2 | (with_reducible refine Kd.C_alloc ?_ _) | (with_reducible refine Kd.C_drewN ?_ _) | (with_reducible refine Kd.C_drew ?_))); (case side2 => exact (Kd.N_reads' HO134.out).2.1); rintro e w19 ⟨rfl, hb⟩; refine ⟨_, rfl, ?_⟩; have n0_ := Aside0.mk (Kd.V_below (by (with_reducible repeat (first | apply Kd.V_alloc | apply Kd.V_drewN | apply Kd.V_drew)); exact HO_0.out) hb); have n1_ := Aside0.mk (Kd.V_below (by (with_reducible repeat (first | apply Kd.V_alloc | apply Kd.V_drewN | apply Kd.V_drew)); exact HO_8.out) hb); have n2_ := Aside0.mk (Kd.N_below (by (with_reducible repeat (first | apply Kd.N_alloc | apply Kd.N_drewN | apply Kd.N_drew)); exact HO134.out) hb); have n3_ := Aside0.mk (below_step (by repeat (first | (with_reducible first | exact HB.out | apply below_alloc | apply pw_below_drewN | apply below_drew1) | exact HB.out)) hb); clear HO_0; clear HO_8; clear HO134; clear HB; have HO_0 := n0_; have HO_8 := n1_; have HO134 := n2_; have HB := n3_; clear n0_ n1_ n2_ n3_; (try clear hb); (try clear hb2); (try clear hk); (try clear hi)))
            go_ret
            exact ⟨by first | rfl | (simp [errW_none, errW_some] <;> rfl) | (simp [*, errW_none, errW_some] <;> rfl) | (simp (disch := first | assumption | omega) only [Int.tdiv_eq_ediv_of_nonneg, Int.tmod_eq_emod_of_nonneg]; rfl), by repeat (first | (with_reducible first | exact HB.out | apply below_alloc | apply pw_below_drewN | apply below_drew1) | exact HB.out)⟩
          · replace c15 := Bool.eq_false_iff.mpr c15
            subst c15
            have H1 : (some 0) = some r := by rw [if_neg (show ¬ (false = true) by decide)] at H; exact H
            clear H
            have H := H1
            clear H1
            obtain rfl := Option.some.inj H
            go_wp2_with (first | ((with_reducible refine gate_dst (N := 19) rfl ?_); refine Kd.N_lit (Kd.slice 45 k45) _ 30 ?hg (N' := 19) ?hd (xs := ([l0] : List (List (S45)))) (inner := [.slice A0 l0.length c0]) (ok := (fun k_ => (P0_ k_ ∨ w.heap.size ≤ k_))) (okp := (fun k_ => (P0_ k_ ∨ w.heap.size ≤ k_))) ?hr ?hp (fun _ hk => hk) ((show ∀ k_, wr.heap.size ≤ k_ → (fun k_ => (P0_ k_ ∨ w.heap.size ≤ k_)) k_ from fun k_ hk => (.inr (Nat.le_trans (below_size (by repeat (first | (with_reducible first | exact HB.out | apply below_alloc | apply pw_below_drewN | apply below_drew1) | exact HB.out))) hk))) _ (Nat.le_refl _)) (Below.refl _ _) (Nat.le_refl _) (by simp) ?_; (case hd => rfl); (case hg => rfl); (case hr => first | (go_simp; done) | (go_simp; rfl)); (case hp => exact (Reps.one (show Kd.FK (Kd.slice 45 k45) _ _ l0 [.slice A0 l0.length c0] from (Kd.FK_slice_mk (Kd.V_reads' (Kd.V_mono (ok' := (fun k_ => (P0_ k_ ∨ w.heap.size ≤ k_))) (HO_0.out) (fun k_ hk => hk))).2.1 (Kd.V_F (Kd.V_mono (ok' := (fun k_ => (P0_ k_ ∨ w.heap.size ≤ k_))) (HO_0.out) (fun k_ hk => hk))))) (Reps.none _ _))); intro v133 w20 ho21 hb hg_ hnew_; clear hg_ hnew_; (first | rw [← Ny132.out] at ho21 | (simp only [Int.reduceToNat] at ho21; rw [← Ny132.out] at ho21)); have n0_ := Aside0.mk (Kd.V_elder' (by (with_reducible repeat (first | apply Kd.V_alloc | apply Kd.V_drewN | apply Kd.V_drew)); exact HO_0.out) (Kd.N_base ho21) hb); have n1_ := Aside0.mk (Kd.V_elder' (by (with_reducible repeat (first | apply Kd.V_alloc | apply Kd.V_drewN | apply Kd.V_drew)); exact HO_8.out) (Kd.N_base ho21) hb); have n2_ := Aside0.mk (Kd.N_lower ho21 (below_size (by repeat (first | (with_reducible first | exact HB.out | apply below_alloc | apply pw_below_drewN | apply below_drew1) | exact HB.out)))); have n3_ := Aside0.mk (below_step (by repeat (first | (with_reducible first | exact HB.out | apply below_alloc | apply pw_below_drewN | apply below_drew1) | exact HB.out)) hb); clear HO_0; clear HO_8; clear HB; have HO_0 := n0_; have HO_8 := n1_; have HO134 := n2_; have HB := n3_; clear n0_ n1_ n2_ n3_; clear hb ho21; obtain ⟨Ao22, co22, eo22⟩ := Kd.N_slice HO134.out; subst eo22) | ((with_reducible refine gate_callee (f := 27) rfl ?_); refine goesL_ (some 20) rfl rfl Try.func27 (by kernel_rfl) rfl #[.slice Ao22 y132.length co22] rfl (by (try simp only [List.map_toArray, List.map_cons, List.map_nil]); first | done | rfl | (simp only [List.length_drop, List.length_take]; rfl)) ?_; (with_reducible refine (lot_repeated.calls _ _ y132 false _ ?side1 ?side2 A14.out).mono ?_); (case side1 => repeat (first | exact (Kd.N_reads' HO134.out).2.2 | (with_reducible refine Kd.C_alloc ?_ _) | (with_reducible refine Kd.C_drewN ?_ _) | (with_reducible refine Kd.C_drew ?_))); (case side2 => exact (Kd.N_reads' HO134.out).2.1); rintro e w23 ⟨rfl, hb⟩; refine ⟨_, rfl, ?_⟩; have n0_ := Aside0.mk (Kd.V_below (by (with_reducible repeat (first | apply Kd.V_alloc | apply Kd.V_drewN | apply Kd.V_drew)); exact HO_0.out) hb); have n1_ := Aside0.mk (Kd.V_below (by (with_reducible repeat (first | apply Kd.V_alloc | apply Kd.V_drewN | apply Kd.V_drew)); exact HO_8.out) hb); have n2_ := Aside0.mk (Kd.N_below (by (with_reducible repeat (first | apply Kd.N_alloc | apply Kd.N_drewN | apply Kd.N_drew)); exact HO134.out) hb); have n3_ := Aside0.mk (below_step (by repeat (first | (with_reducible first | exact HB.out | apply below_alloc | apply pw_below_drewN | apply below_drew1) | exact HB.out)) hb); clear HO_0; clear HO_8; clear HO134; clear HB; have HO_0 := n0_; have HO_8 := n1_; have HO134 := n2_; have HB := n3_; clear n0_ n1_ n2_ n3_; (try clear hb); (try clear hb2); (try clear hk); (try clear hi)))
            go_ret
            exact ⟨by first | rfl | (simp [errW_none, errW_some] <;> rfl) | (simp [*, errW_none, errW_some] <;> rfl) | (simp (disch := first | assumption | omega) only [Int.tdiv_eq_ediv_of_nonneg, Int.tmod_eq_emod_of_nonneg]; rfl), by repeat (first | (with_reducible first | exact HB.out | apply below_alloc | apply pw_below_drewN | apply below_drew1) | exact HB.out)⟩

end Go.Proofs.Ythbkooonlhldnaa.PX
end
section
namespace Go.Proofs.Ythbkooonlhldnaa.PX
open Go.RowKit Go.Proofs.YthbkooonlhldnaaW.PrintWords Go.Proofs.YthbkooonlhldnaaW.PrintLast Go.Proofs.YthbkooonlhldnaaW.PrintMore
attribute [local go_sem] max2_int min2_int max_two min_two max_three min_three max_four min_four   -- for this text's walks alone
set_option linter.unusedVariables false
set_option linter.unusedSimpArgs false

/-! ### latent_Duty: function 13 -/
def latent_Duty.f (k : Nat) (l0 : List (S45)) (l1 : List (S39)) : Option (Int × Int) := (lot_Valid.f k l0).bind fun t145 => (if t145 = 0 then ((latent_Validate.f k l1).bind fun t146 => (if t146 = 0 then ((latent_duty.f k l0 l1).bind fun bt147 => (some (bt147.1, bt147.2))) else (some (0, t146)))) else (some (0, t145)))
theorem latent_Duty.mono : ∀ a0 a1 k, LeO (latent_Duty.f k a0 a1) (latent_Duty.f (k + 1) a0 a1) := by
  intro a0 a1 k
  unfold latent_Duty.f
  repeat' first
      | (with_reducible exact latent_Validate.mono _ _)
      | (with_reducible exact latent_duty.mono _ _ _)
      | (with_reducible exact lot_Valid.mono _ _)
      | (with_reducible exact LeO.refl _)
      | (with_reducible exact LeO.none _)
      | (with_reducible refine LeO.ite ?_ ?_)
      | (with_reducible refine LeO.bind ?_ (fun _ => ?_))
      | exact latent_Validate.mono _ _
      | exact latent_duty.mono _ _ _
      | exact lot_Valid.mono _ _
      | exact LeO.none _
      | refine LeO.ite ?_ ?_
      | refine LeO.bind ?_ (fun _ => ?_)
set_option maxHeartbeats 8000000 in
set_option maxRecDepth 100000 in
theorem latent_Duty.calls (k : Nat) (A0 : Option Addr) (c0 : Nat) (l0 : List (S45)) (A1 : Option Addr) (c1 : Nat) (l1 : List (S39)) (r1 : Int) (r2 : Int) (w : World) (hr0 : Kd.C k45 w A0 l0.length l0) (hc0 : l0.length ≤ c0) (hr1 : Kd.C k39 w A1 l1.length l1) (hc1 : l1.length ≤ c1) (h : latent_Duty.f k l0 l1 = some (r1, r2)) :
    Calls Try.prog 13 #[.slice A0 l0.length c0, .slice A1 l1.length c1] w fun e w' => e = .returned (.tuple #[.int .i64 r1, .int .i64 r2]) ∧ Below w.heap.size w w' := by
  have HR0 := Aside0.mk hr0
  have HC0 := Aside0.mk hc0
  clear hr0 hc0
  have HR1 := Aside0.mk hr1
  have HC1 := Aside0.mk hc1
  clear hr1 hc1
  have HB := Aside0.mk (Below.refl w.heap.size w)
  have H : ((lot_Valid.f k l0).bind fun t145 => (if t145 = 0 then ((latent_Validate.f k l1).bind fun t146 => (if t146 = 0 then ((latent_duty.f k l0 l1).bind fun bt147 => (some (bt147.1, bt147.2))) else (some (0, t146)))) else (some (0, t145)))) = some (r1, r2) := h
  clear h
  replace H := Option.bind_eq_some_iff.mp H
  obtain ⟨t145, A30, H⟩ := H
  replace H : (if t145 = 0 then ((latent_Validate.f k l1).bind fun t146 => (if t146 = 0 then ((latent_duty.f k l0 l1).bind fun bt147 => (some (bt147.1, bt147.2))) else (some (0, t146)))) else (some (0, t145))) = some (r1, r2) := H
  have A3 := Aside0.mk A30
  clear A30
  by_cases c4 : t145 = 0
  · rw [if_pos c4] at H
    have c4b0 : (t145 == 0) = true := beq_iff_eq.mpr c4
    have c4b1 : (t145 != 0) = false := bne_eq_false_iff_eq.mpr c4
    clear c4
    replace H := Option.bind_eq_some_iff.mp H
    obtain ⟨t146, A50, H⟩ := H
    replace H : (if t146 = 0 then ((latent_duty.f k l0 l1).bind fun bt147 => (some (bt147.1, bt147.2))) else (some (0, t146))) = some (r1, r2) := H
    have A5 := Aside0.mk A50
    clear A50
    by_cases c6 : t146 = 0
    · rw [if_pos c6] at H
      have c6b0 : (t146 == 0) = true := beq_iff_eq.mpr c6
      have c6b1 : (t146 != 0) = false := bne_eq_false_iff_eq.mpr c6
      clear c6
      replace H := Option.bind_eq_some_iff.mp H
      obtain ⟨⟨t147, t148⟩, A70, H⟩ := H
      replace H : (some (t147, t148)) = some (r1, r2) := H
      have A7 := Aside0.mk A70
      clear A70
      simp only [Option.some.injEq, Prod.mk.injEq] at H
      obtain ⟨rfl, rfl⟩ := H
      go_enter Try.func13, Try.ntmps13
      go_wp2_with (first | ((with_reducible refine gate_callee (f := 21) rfl ?_); refine goesL_ (some 9) rfl rfl Try.func21 (by kernel_rfl) rfl #[.slice A0 l0.length c0] rfl (by (try simp only [List.map_toArray, List.map_cons, List.map_nil]); first | done | rfl | (simp only [List.length_drop, List.length_take]; rfl)) ?_; (with_reducible refine (lot_Valid.calls k (fun k_ => k_ < w.heap.size) _ _ l0 t145 _ ?side1 A3.out).mono ?_); (case side1 => exact Kd.V_mk HC0.out (Kd.F_below (Kd.C_F k45_heap HR0.out) (by repeat (first | (with_reducible first | exact HB.out | apply below_alloc | apply pw_below_drewN | apply below_drew1) | exact HB.out)))); rintro e w8 ⟨rfl, hb⟩; refine ⟨_, rfl, ?_⟩; have n0_ := Aside0.mk (below_step (by repeat (first | (with_reducible first | exact HB.out | apply below_alloc | apply pw_below_drewN | apply below_drew1) | exact HB.out)) hb); clear HB; have HB := n0_; clear n0_; (try clear hb); (try clear hb2); (try clear hk); (try clear hi)) | ((with_reducible refine gate_callee (f := 15) rfl ?_); refine goesL_ (some 14) rfl rfl Try.func15 (by kernel_rfl) rfl #[.slice A1 l1.length c1] rfl (by (try simp only [List.map_toArray, List.map_cons, List.map_nil]); first | done | rfl | (simp only [List.length_drop, List.length_take]; rfl)) ?_; (with_reducible refine (latent_Validate.calls k _ _ l1 t146 _ ?side1 ?side2 A5.out).mono ?_); (case side1 => repeat (first | exact (Kd.C_below HR1.out HB.out) | (with_reducible refine Kd.C_alloc ?_ _) | (with_reducible refine Kd.C_drewN ?_ _) | (with_reducible refine Kd.C_drew ?_))); (case side2 => exact HC1.out); rintro e w9 ⟨rfl, hb⟩; refine ⟨_, rfl, ?_⟩; have n0_ := Aside0.mk (below_step (by repeat (first | (with_reducible first | exact HB.out | apply below_alloc | apply pw_below_drewN | apply below_drew1) | exact HB.out)) hb); clear HB; have HB := n0_; clear n0_; (try clear hb); (try clear hb2); (try clear hk); (try clear hi)) | ((with_reducible refine gate_callee (f := 22) rfl ?_); refine goesL_ (some 20) rfl rfl Try.func22 (by kernel_rfl) rfl #[.slice A0 l0.length c0, .slice A1 l1.length c1] rfl (by (try simp only [List.map_toArray, List.map_cons, List.map_nil]); first | done | rfl | (simp only [List.length_drop, List.length_take]; rfl)) ?_; (with_reducible refine (latent_duty.calls k _ _ l0 _ _ l1 t147 t148 _ ?side1 ?side2 ?side3 ?side4 A7.out).mono ?_); (case side1 => repeat (first | exact (Kd.C_below HR0.out HB.out) | (with_reducible refine Kd.C_alloc ?_ _) | (with_reducible refine Kd.C_drewN ?_ _) | (with_reducible refine Kd.C_drew ?_))); (case side2 => exact HC0.out); (case side3 => repeat (first | exact (Kd.C_below HR1.out HB.out) | (with_reducible refine Kd.C_alloc ?_ _) | (with_reducible refine Kd.C_drewN ?_ _) | (with_reducible refine Kd.C_drew ?_))); (case side4 => exact HC1.out); rintro e w10 ⟨rfl, hb⟩; refine ⟨_, rfl, ?_⟩; have n0_ := Aside0.mk (below_step (by repeat (first | (with_reducible first | exact HB.out | apply below_alloc | apply pw_below_drewN | apply below_drew1) | exact HB.out)) hb); clear HB; have HB := n0_; clear n0_; (try clear hb); (try clear hb2); (try clear hk); (try clear hi)))
      go_ret2
      exact ⟨by first | rfl | (simp [errW_none, errW_some] <;> rfl) | (simp [*, errW_none, errW_some] <;> rfl) | (simp (disch := first | assumption | omega) only [Int.tdiv_eq_ediv_of_nonneg, Int.tmod_eq_emod_of_nonneg]; rfl), by repeat (first | (with_reducible first | exact HB.out | apply below_alloc | apply pw_below_drewN | apply below_drew1) | exact HB.out)⟩
    · rw [if_neg c6] at H
      have c6b0 : (t146 == 0) = false := beq_eq_false_iff_ne.mpr c6
      have c6b1 : (t146 != 0) = true := bne_iff_ne.mpr c6
      simp only [Option.some.injEq, Prod.mk.injEq] at H
      obtain ⟨rfl, rfl⟩ := H
      go_enter Try.func13, Try.ntmps13
      go_wp2_with (first | ((with_reducible refine gate_callee (f := 21) rfl ?_); refine goesL_ (some 9) rfl rfl Try.func21 (by kernel_rfl) rfl #[.slice A0 l0.length c0] rfl (by (try simp only [List.map_toArray, List.map_cons, List.map_nil]); first | done | rfl | (simp only [List.length_drop, List.length_take]; rfl)) ?_; (with_reducible refine (lot_Valid.calls k (fun k_ => k_ < w.heap.size) _ _ l0 t145 _ ?side1 A3.out).mono ?_); (case side1 => exact Kd.V_mk HC0.out (Kd.F_below (Kd.C_F k45_heap HR0.out) (by repeat (first | (with_reducible first | exact HB.out | apply below_alloc | apply pw_below_drewN | apply below_drew1) | exact HB.out)))); rintro e w11 ⟨rfl, hb⟩; refine ⟨_, rfl, ?_⟩; have n0_ := Aside0.mk (below_step (by repeat (first | (with_reducible first | exact HB.out | apply below_alloc | apply pw_below_drewN | apply below_drew1) | exact HB.out)) hb); clear HB; have HB := n0_; clear n0_; (try clear hb); (try clear hb2); (try clear hk); (try clear hi)) | ((with_reducible refine gate_callee (f := 15) rfl ?_); refine goesL_ (some 14) rfl rfl Try.func15 (by kernel_rfl) rfl #[.slice A1 l1.length c1] rfl (by (try simp only [List.map_toArray, List.map_cons, List.map_nil]); first | done | rfl | (simp only [List.length_drop, List.length_take]; rfl)) ?_; (with_reducible refine (latent_Validate.calls k _ _ l1 t146 _ ?side1 ?side2 A5.out).mono ?_); (case side1 => repeat (first | exact (Kd.C_below HR1.out HB.out) | (with_reducible refine Kd.C_alloc ?_ _) | (with_reducible refine Kd.C_drewN ?_ _) | (with_reducible refine Kd.C_drew ?_))); (case side2 => exact HC1.out); rintro e w12 ⟨rfl, hb⟩; refine ⟨_, rfl, ?_⟩; have n0_ := Aside0.mk (below_step (by repeat (first | (with_reducible first | exact HB.out | apply below_alloc | apply pw_below_drewN | apply below_drew1) | exact HB.out)) hb); clear HB; have HB := n0_; clear n0_; (try clear hb); (try clear hb2); (try clear hk); (try clear hi)))
      go_ret2
      exact ⟨by first | rfl | (simp [errW_none, errW_some] <;> rfl) | (simp [*, errW_none, errW_some] <;> rfl) | (simp (disch := first | assumption | omega) only [Int.tdiv_eq_ediv_of_nonneg, Int.tmod_eq_emod_of_nonneg]; rfl), by repeat (first | (with_reducible first | exact HB.out | apply below_alloc | apply pw_below_drewN | apply below_drew1) | exact HB.out)⟩
  · rw [if_neg c4] at H
    have c4b0 : (t145 == 0) = false := beq_eq_false_iff_ne.mpr c4
    have c4b1 : (t145 != 0) = true := bne_iff_ne.mpr c4
    simp only [Option.some.injEq, Prod.mk.injEq] at H
    obtain ⟨rfl, rfl⟩ := H
    go_enter Try.func13, Try.ntmps13
    go_wp2_with (first | ((with_reducible refine gate_callee (f := 21) rfl ?_); refine goesL_ (some 9) rfl rfl Try.func21 (by kernel_rfl) rfl #[.slice A0 l0.length c0] rfl (by (try simp only [List.map_toArray, List.map_cons, List.map_nil]); first | done | rfl | (simp only [List.length_drop, List.length_take]; rfl)) ?_; (with_reducible refine (lot_Valid.calls k (fun k_ => k_ < w.heap.size) _ _ l0 t145 _ ?side1 A3.out).mono ?_); (case side1 => exact Kd.V_mk HC0.out (Kd.F_below (Kd.C_F k45_heap HR0.out) (by repeat (first | (with_reducible first | exact HB.out | apply below_alloc | apply pw_below_drewN | apply below_drew1) | exact HB.out)))); rintro e w13 ⟨rfl, hb⟩; refine ⟨_, rfl, ?_⟩; have n0_ := Aside0.mk (below_step (by repeat (first | (with_reducible first | exact HB.out | apply below_alloc | apply pw_below_drewN | apply below_drew1) | exact HB.out)) hb); clear HB; have HB := n0_; clear n0_; (try clear hb); (try clear hb2); (try clear hk); (try clear hi)))
    go_ret2
    exact ⟨by first | rfl | (simp [errW_none, errW_some] <;> rfl) | (simp [*, errW_none, errW_some] <;> rfl) | (simp (disch := first | assumption | omega) only [Int.tdiv_eq_ediv_of_nonneg, Int.tmod_eq_emod_of_nonneg]; rfl), by repeat (first | (with_reducible first | exact HB.out | apply below_alloc | apply pw_below_drewN | apply below_drew1) | exact HB.out)⟩

end Go.Proofs.Ythbkooonlhldnaa.PX
end
section
namespace Go.Proofs.Ythbkooonlhldnaa.PX
open Go.RowKit Go.Proofs.YthbkooonlhldnaaW.PrintWords Go.Proofs.YthbkooonlhldnaaW.PrintLast Go.Proofs.YthbkooonlhldnaaW.PrintMore
attribute [local go_sem] max2_int min2_int max_two min_two max_three min_three max_four min_four   -- for this text's walks alone
set_option linter.unusedVariables false
set_option linter.unusedSimpArgs false

/-! ### customslaw27_awake: function 9 -/
def customslaw27_awake.f (k : Nat)  : Option (Bool) := (latent_Portion.f k 100 3 0 1).bind fun bt149 => ((latent_Portion.f k 100 3 2 3).bind fun bt151 => ((latent_Duty.f k (([(⟨7, 0, 2⟩ : S45)] : List (S45))) (([(⟨7, 3, 100⟩ : S39)] : List (S39)))).bind fun bt159 => (if bt149.1 = 33 then (if bt149.2 = 0 then (if bt151.1 = 34 then (if bt151.2 = 0 then (if bt159.1 = 66 then (some (bt159.2 == 0)) else (some false)) else (some false)) else (some false)) else (some false)) else (some false))))
theorem customslaw27_awake.mono : ∀ k, LeO (customslaw27_awake.f k ) (customslaw27_awake.f (k + 1) ) := by
  intro  k
  unfold customslaw27_awake.f
  repeat' first
      | (with_reducible exact latent_Duty.mono _ _ _)
      | (with_reducible exact latent_Portion.mono _ _ _ _ _)
      | (with_reducible exact LeO.refl _)
      | (with_reducible exact LeO.none _)
      | (with_reducible refine LeO.ite ?_ ?_)
      | (with_reducible refine LeO.bind ?_ (fun _ => ?_))
      | exact latent_Duty.mono _ _ _
      | exact latent_Portion.mono _ _ _ _ _
      | exact LeO.none _
      | refine LeO.ite ?_ ?_
      | refine LeO.bind ?_ (fun _ => ?_)
set_option maxHeartbeats 8000000 in
set_option maxRecDepth 100000 in
theorem customslaw27_awake.calls (k : Nat)  (r : Bool) (w : World) (h : customslaw27_awake.f k  = some r) :
    Calls Try.prog 9 #[] w fun e w' => e = .returned (.bool r) ∧ Below w.heap.size w w' := by
  have hu45 := Try.underlying45
  have hu39 := Try.underlying39
  have HB := Aside0.mk (Below.refl w.heap.size w)
  have H : ((latent_Portion.f k 100 3 0 1).bind fun bt149 => ((latent_Portion.f k 100 3 2 3).bind fun bt151 => ((latent_Duty.f k (([(⟨7, 0, 2⟩ : S45)] : List (S45))) (([(⟨7, 3, 100⟩ : S39)] : List (S39)))).bind fun bt159 => (if bt149.1 = 33 then (if bt149.2 = 0 then (if bt151.1 = 34 then (if bt151.2 = 0 then (if bt159.1 = 66 then (some (bt159.2 == 0)) else (some false)) else (some false)) else (some false)) else (some false)) else (some false))))) = some r := h
  clear h
  replace H := Option.bind_eq_some_iff.mp H
  obtain ⟨⟨t149, t150⟩, A10, H⟩ := H
  replace H : ((latent_Portion.f k 100 3 2 3).bind fun bt151 => ((latent_Duty.f k (([(⟨7, 0, 2⟩ : S45)] : List (S45))) (([(⟨7, 3, 100⟩ : S39)] : List (S39)))).bind fun bt159 => (if t149 = 33 then (if t150 = 0 then (if bt151.1 = 34 then (if bt151.2 = 0 then (if bt159.1 = 66 then (some (bt159.2 == 0)) else (some false)) else (some false)) else (some false)) else (some false)) else (some false)))) = some r := H
  have A1 := Aside0.mk A10
  clear A10
  replace H := Option.bind_eq_some_iff.mp H
  obtain ⟨⟨t151, t152⟩, A20, H⟩ := H
  replace H : ((latent_Duty.f k (([(⟨7, 0, 2⟩ : S45)] : List (S45))) (([(⟨7, 3, 100⟩ : S39)] : List (S39)))).bind fun bt159 => (if t149 = 33 then (if t150 = 0 then (if t151 = 34 then (if t152 = 0 then (if bt159.1 = 66 then (some (bt159.2 == 0)) else (some false)) else (some false)) else (some false)) else (some false)) else (some false))) = some r := H
  have A2 := Aside0.mk A20
  clear A20
  obtain ⟨y153, hy153⟩ : ∃ y_ : List (S45), y_ = (([(⟨7, 0, 2⟩ : S45)] : List (S45))) := ⟨_, rfl⟩
  replace H : ((latent_Duty.f k y153 (([(⟨7, 3, 100⟩ : S39)] : List (S39)))).bind fun bt159 => (if t149 = 33 then (if t150 = 0 then (if t151 = 34 then (if t152 = 0 then (if bt159.1 = 66 then (some (bt159.2 == 0)) else (some false)) else (some false)) else (some false)) else (some false)) else (some false))) = some r := by first | (rw [hy153]; with_reducible exact H) | (have H2_ := (Option.bind_some _ _).symm.trans H; rw [hy153]; with_reducible exact H2_) | (have H2_ := (Option.bind_some _ _).symm.trans H; with_reducible exact H2_) | with_reducible exact H | (rw [hy153]; exact H) | exact H
  have Ny153 := Aside0.mk hy153
  clear hy153
  obtain ⟨y156, hy156⟩ : ∃ y_ : List (S39), y_ = (([(⟨7, 3, 100⟩ : S39)] : List (S39))) := ⟨_, rfl⟩
  replace H : ((latent_Duty.f k y153 y156).bind fun bt159 => (if t149 = 33 then (if t150 = 0 then (if t151 = 34 then (if t152 = 0 then (if bt159.1 = 66 then (some (bt159.2 == 0)) else (some false)) else (some false)) else (some false)) else (some false)) else (some false))) = some r := by first | (rw [hy156]; with_reducible exact H) | (have H2_ := (Option.bind_some _ _).symm.trans H; rw [hy156]; with_reducible exact H2_) | (have H2_ := (Option.bind_some _ _).symm.trans H; with_reducible exact H2_) | with_reducible exact H | (rw [hy156]; exact H) | exact H
  have Ny156 := Aside0.mk hy156
  clear hy156
  replace H := Option.bind_eq_some_iff.mp H
  obtain ⟨⟨t159, t160⟩, A30, H⟩ := H
  replace H : (if t149 = 33 then (if t150 = 0 then (if t151 = 34 then (if t152 = 0 then (if t159 = 66 then (some (t160 == 0)) else (some false)) else (some false)) else (some false)) else (some false)) else (some false)) = some r := H
  have A3 := Aside0.mk A30
  clear A30
  by_cases c4 : t149 = 33
  · rw [if_pos c4] at H
    have c4b0 : (t149 == 33) = true := beq_iff_eq.mpr c4
    have c4b1 : (t149 != 33) = false := bne_eq_false_iff_eq.mpr c4
    clear c4
    by_cases c5 : t150 = 0
    · rw [if_pos c5] at H
      have c5b0 : (t150 == 0) = true := beq_iff_eq.mpr c5
      have c5b1 : (t150 != 0) = false := bne_eq_false_iff_eq.mpr c5
      clear c5
      by_cases c6 : t151 = 34
      · rw [if_pos c6] at H
        have c6b0 : (t151 == 34) = true := beq_iff_eq.mpr c6
        have c6b1 : (t151 != 34) = false := bne_eq_false_iff_eq.mpr c6
        clear c6
        by_cases c7 : t152 = 0
        · rw [if_pos c7] at H
          have c7b0 : (t152 == 0) = true := beq_iff_eq.mpr c7
          have c7b1 : (t152 != 0) = false := bne_eq_false_iff_eq.mpr c7
          clear c7
          by_cases c8 : t159 = 66
          · rw [if_pos c8] at H
            have c8b0 : (t159 == 66) = true := beq_iff_eq.mpr c8
            have c8b1 : (t159 != 66) = false := bne_eq_false_iff_eq.mpr c8
            clear c8
            obtain rfl := Option.some.inj H
            go_enter Try.func9, Try.ntmps9
            go_wp2_with (first | ((with_reducible refine gate_callee (f := 7) rfl ?_); refine goesL_ (some 8) rfl rfl Try.func7 (by kernel_rfl) rfl #[.int .i64 100, .int .i64 3, .int .i64 0, .int .i64 1] rfl (by (try simp only [List.map_toArray, List.map_cons, List.map_nil]); first | done | rfl | (simp only [List.length_drop, List.length_take]; rfl)) ?_; (with_reducible refine (latent_Portion.calls k 100 3 0 1 t149 t150 _ A1.out).mono ?_); rintro e w9 ⟨rfl, hb⟩; refine ⟨_, rfl, ?_⟩; have n0_ := Aside0.mk (below_step (by repeat (first | (with_reducible first | exact HB.out | apply below_alloc | apply pw_below_drewN | apply below_drew1) | exact HB.out)) hb); clear HB; have HB := n0_; clear n0_; (try clear hb); (try clear hb2); (try clear hk); (try clear hi)) | ((with_reducible refine gate_callee (f := 7) rfl ?_); refine goesL_ (some 12) rfl rfl Try.func7 (by kernel_rfl) rfl #[.int .i64 100, .int .i64 3, .int .i64 2, .int .i64 3] rfl (by (try simp only [List.map_toArray, List.map_cons, List.map_nil]); first | done | rfl | (simp only [List.length_drop, List.length_take]; rfl)) ?_; (with_reducible refine (latent_Portion.calls k 100 3 2 3 t151 t152 _ A2.out).mono ?_); rintro e w10 ⟨rfl, hb⟩; refine ⟨_, rfl, ?_⟩; have n0_ := Aside0.mk (below_step (by repeat (first | (with_reducible first | exact HB.out | apply below_alloc | apply pw_below_drewN | apply below_drew1) | exact HB.out)) hb); clear HB; have HB := n0_; clear n0_; (try clear hb); (try clear hb2); (try clear hk); (try clear hi)) | ((with_reducible refine gate_dst (N := 17) rfl ?_); refine Kd.R_lit k45 _ 45 ?hg (N := 17) ?hd (xs := ([(⟨7, 0, 2⟩ : S45)] : List (S45))) (inner := [.int .i64 7, .int .i64 0, .int .i64 2]) (ok := fun _ => True) (okp := fun _ => True) ?hr ?hp (fun _ hk => hk) trivial (Below.refl _ _) (Nat.le_refl _) (by simp) ?_; (case hd => rfl); (case hg => rfl); (case hr => first | (go_simp; done) | (go_simp; rfl)); (case hp => exact (Reps.c3 (show Kd.M k45 _ _ _ (⟨7, 0, 2⟩ : S45) [.int .i64 7, .int .i64 0, .int .i64 2] from (k45_mkM _ _ _ (⟨7, 0, 2⟩ : S45) )) (Reps.none _ _))); intro v154 w11 ho12 hb hg_ hnew_; clear hg_ hnew_; (first | rw [← Ny153.out] at ho12 | (simp only [Int.reduceToNat] at ho12; rw [← Ny153.out] at ho12)); have n0_ := Aside0.mk (Kd.R_lower ho12 (below_size (by repeat (first | (with_reducible first | exact HB.out | apply below_alloc | apply pw_below_drewN | apply below_drew1) | exact HB.out)))); have n1_ := Aside0.mk (below_step (by repeat (first | (with_reducible first | exact HB.out | apply below_alloc | apply pw_below_drewN | apply below_drew1) | exact HB.out)) hb); clear HB; have HO155 := n0_; have HB := n1_; clear n0_ n1_; clear hb ho12) | ((with_reducible refine gate_dst (N := 19) rfl ?_); refine Kd.R_lit k39 _ 39 ?hg (N := 19) ?hd (xs := ([(⟨7, 3, 100⟩ : S39)] : List (S39))) (inner := [.int .i64 7, .int .i64 3, .int .i64 100]) (ok := fun _ => True) (okp := fun _ => True) ?hr ?hp (fun _ hk => hk) trivial (Below.refl _ _) (Nat.le_refl _) (by simp) ?_; (case hd => rfl); (case hg => rfl); (case hr => first | (go_simp; done) | (go_simp; rfl)); (case hp => exact (Reps.c3 (show Kd.M k39 _ _ _ (⟨7, 3, 100⟩ : S39) [.int .i64 7, .int .i64 3, .int .i64 100] from (k39_mkM _ _ _ (⟨7, 3, 100⟩ : S39) )) (Reps.none _ _))); intro v157 w13 ho14 hb hg_ hnew_; clear hg_ hnew_; (first | rw [← Ny156.out] at ho14 | (simp only [Int.reduceToNat] at ho14; rw [← Ny156.out] at ho14)); have n0_ := Aside0.mk (Kd.R_below (by (with_reducible repeat (first | apply Kd.R_alloc | apply Kd.R_drewN | apply Kd.R_drew)); exact HO155.out) hb); have n1_ := Aside0.mk (Kd.R_lower ho14 (below_size (by repeat (first | (with_reducible first | exact HB.out | apply below_alloc | apply pw_below_drewN | apply below_drew1) | exact HB.out)))); have n2_ := Aside0.mk (below_step (by repeat (first | (with_reducible first | exact HB.out | apply below_alloc | apply pw_below_drewN | apply below_drew1) | exact HB.out)) hb); clear HO155; clear HB; have HO155 := n0_; have HO158 := n1_; have HB := n2_; clear n0_ n1_ n2_; clear hb ho14; obtain ⟨Ao15, co15, eo15⟩ := Kd.R_slice HO155.out; subst eo15; obtain ⟨Ao16, co16, eo16⟩ := Kd.R_slice HO158.out; subst eo16) | ((with_reducible refine gate_callee (f := 13) rfl ?_); refine goesL_ (some 20) rfl rfl Try.func13 (by kernel_rfl) rfl #[.slice Ao15 y153.length co15, .slice Ao16 y156.length co16] rfl (by (try simp only [List.map_toArray, List.map_cons, List.map_nil]); first | done | rfl | (simp only [List.length_drop, List.length_take]; rfl)) ?_; (with_reducible refine (latent_Duty.calls k _ _ y153 _ _ y156 t159 t160 _ ?side1 ?side2 ?side3 ?side4 A3.out).mono ?_); (case side1 => repeat (first | exact (Kd.R_reads' HO155.out).2.2 | (with_reducible refine Kd.C_alloc ?_ _) | (with_reducible refine Kd.C_drewN ?_ _) | (with_reducible refine Kd.C_drew ?_))); (case side2 => exact (Kd.R_reads' HO155.out).2.1); (case side3 => repeat (first | exact (Kd.R_reads' HO158.out).2.2 | (with_reducible refine Kd.C_alloc ?_ _) | (with_reducible refine Kd.C_drewN ?_ _) | (with_reducible refine Kd.C_drew ?_))); (case side4 => exact (Kd.R_reads' HO158.out).2.1); rintro e w17 ⟨rfl, hb⟩; refine ⟨_, rfl, ?_⟩; have n0_ := Aside0.mk (Kd.R_below (by (with_reducible repeat (first | apply Kd.R_alloc | apply Kd.R_drewN | apply Kd.R_drew)); exact HO155.out) hb); have n1_ := Aside0.mk (Kd.R_below (by (with_reducible repeat (first | apply Kd.R_alloc | apply Kd.R_drewN | apply Kd.R_drew)); exact HO158.out) hb); have n2_ := Aside0.mk (below_step (by repeat (first | (with_reducible first | exact HB.out | apply below_alloc | apply pw_below_drewN | apply below_drew1) | exact HB.out)) hb); clear HO155; clear HO158; clear HB; have HO155 := n0_; have HO158 := n1_; have HB := n2_; clear n0_ n1_ n2_; (try clear hb); (try clear hb2); (try clear hk); (try clear hi)))
            go_ret
            exact ⟨by first | rfl | (simp [errW_none, errW_some] <;> rfl) | (simp [*, errW_none, errW_some] <;> rfl) | (simp (disch := first | assumption | omega) only [Int.tdiv_eq_ediv_of_nonneg, Int.tmod_eq_emod_of_nonneg]; rfl), by repeat (first | (with_reducible first | exact HB.out | apply below_alloc | apply pw_below_drewN | apply below_drew1) | exact HB.out)⟩
          · rw [if_neg c8] at H
            have c8b0 : (t159 == 66) = false := beq_eq_false_iff_ne.mpr c8
            have c8b1 : (t159 != 66) = true := bne_iff_ne.mpr c8
            obtain rfl := Option.some.inj H
            go_enter Try.func9, Try.ntmps9
            go_wp2_with (first | ((with_reducible refine gate_callee (f := 7) rfl ?_); refine goesL_ (some 8) rfl rfl Try.func7 (by kernel_rfl) rfl #[.int .i64 100, .int .i64 3, .int .i64 0, .int .i64 1] rfl (by (try simp only [List.map_toArray, List.map_cons, List.map_nil]); first | done | rfl | (simp only [List.length_drop, List.length_take]; rfl)) ?_; (with_reducible refine (latent_Portion.calls k 100 3 0 1 t149 t150 _ A1.out).mono ?_); rintro e w18 ⟨rfl, hb⟩; refine ⟨_, rfl, ?_⟩; have n0_ := Aside0.mk (below_step (by repeat (first | (with_reducible first | exact HB.out | apply below_alloc | apply pw_below_drewN | apply below_drew1) | exact HB.out)) hb); clear HB; have HB := n0_; clear n0_; (try clear hb); (try clear hb2); (try clear hk); (try clear hi)) | ((with_reducible refine gate_callee (f := 7) rfl ?_); refine goesL_ (some 12) rfl rfl Try.func7 (by kernel_rfl) rfl #[.int .i64 100, .int .i64 3, .int .i64 2, .int .i64 3] rfl (by (try simp only [List.map_toArray, List.map_cons, List.map_nil]); first | done | rfl | (simp only [List.length_drop, List.length_take]; rfl)) ?_; (with_reducible refine (latent_Portion.calls k 100 3 2 3 t151 t152 _ A2.out).mono ?_); rintro e w19 ⟨rfl, hb⟩; refine ⟨_, rfl, ?_⟩; have n0_ := Aside0.mk (below_step (by repeat (first | (with_reducible first | exact HB.out | apply below_alloc | apply pw_below_drewN | apply below_drew1) | exact HB.out)) hb); clear HB; have HB := n0_; clear n0_; (try clear hb); (try clear hb2); (try clear hk); (try clear hi)) | ((with_reducible refine gate_dst (N := 17) rfl ?_); refine Kd.R_lit k45 _ 45 ?hg (N := 17) ?hd (xs := ([(⟨7, 0, 2⟩ : S45)] : List (S45))) (inner := [.int .i64 7, .int .i64 0, .int .i64 2]) (ok := fun _ => True) (okp := fun _ => True) ?hr ?hp (fun _ hk => hk) trivial (Below.refl _ _) (Nat.le_refl _) (by simp) ?_; (case hd => rfl); (case hg => rfl); (case hr => first | (go_simp; done) | (go_simp; rfl)); (case hp => exact (Reps.c3 (show Kd.M k45 _ _ _ (⟨7, 0, 2⟩ : S45) [.int .i64 7, .int .i64 0, .int .i64 2] from (k45_mkM _ _ _ (⟨7, 0, 2⟩ : S45) )) (Reps.none _ _))); intro v154 w20 ho21 hb hg_ hnew_; clear hg_ hnew_; (first | rw [← Ny153.out] at ho21 | (simp only [Int.reduceToNat] at ho21; rw [← Ny153.out] at ho21)); have n0_ := Aside0.mk (Kd.R_lower ho21 (below_size (by repeat (first | (with_reducible first | exact HB.out | apply below_alloc | apply pw_below_drewN | apply below_drew1) | exact HB.out)))); have n1_ := Aside0.mk (below_step (by repeat (first | (with_reducible first | exact HB.out | apply below_alloc | apply pw_below_drewN | apply below_drew1) | exact HB.out)) hb); clear HB; have HO155 := n0_; have HB := n1_; clear n0_ n1_; clear hb ho21) | ((with_reducible refine gate_dst (N := 19) rfl ?_); refine Kd.R_lit k39 _ 39 ?hg (N := 19) ?hd (xs := ([(⟨7, 3, 100⟩ : S39)] : List (S39))) (inner := [.int .i64 7, .int .i64 3, .int .i64 100]) (ok := fun _ => True) (okp := fun _ => True) ?hr ?hp (fun _ hk => hk) trivial (Below.refl _ _) (Nat.le_refl _) (by simp) ?_; (case hd => rfl); (case hg => rfl); (case hr => first | (go_simp; done) | (go_simp; rfl)); (case hp => exact (Reps.c3 (show Kd.M k39 _ _ _ (⟨7, 3, 100⟩ : S39) [.int .i64 7, .int .i64 3, .int .i64 100] from (k39_mkM _ _ _ (⟨7, 3, 100⟩ : S39) )) (Reps.none _ _))); intro v157 w22 ho23 hb hg_ hnew_; clear hg_ hnew_; (first | rw [← Ny156.out] at ho23 | (simp only [Int.reduceToNat] at ho23; rw [← Ny156.out] at ho23)); have n0_ := Aside0.mk (Kd.R_below (by (with_reducible repeat (first | apply Kd.R_alloc | apply Kd.R_drewN | apply Kd.R_drew)); exact HO155.out) hb); have n1_ := Aside0.mk (Kd.R_lower ho23 (below_size (by repeat (first | (with_reducible first | exact HB.out | apply below_alloc | apply pw_below_drewN | apply below_drew1) | exact HB.out)))); have n2_ := Aside0.mk (below_step (by repeat (first | (with_reducible first | exact HB.out | apply below_alloc | apply pw_below_drewN | apply below_drew1) | exact HB.out)) hb); clear HO155; clear HB; have HO155 := n0_; have HO158 := n1_; have HB := n2_; clear n0_ n1_ n2_; clear hb ho23; obtain ⟨Ao24, co24, eo24⟩ := Kd.R_slice HO155.out; subst eo24; obtain ⟨Ao25, co25, eo25⟩ := Kd.R_slice HO158.out; subst eo25) | ((with_reducible refine gate_callee (f := 13) rfl ?_); refine goesL_ (some 20) rfl rfl Try.func13 (by kernel_rfl) rfl #[.slice Ao24 y153.length co24, .slice Ao25 y156.length co25] rfl (by (try simp only [List.map_toArray, List.map_cons, List.map_nil]); first | done | rfl | (simp only [List.length_drop, List.length_take]; rfl)) ?_; (with_reducible refine (latent_Duty.calls k _ _ y153 _ _ y156 t159 t160 _ ?side1 ?side2 ?side3 ?side4 A3.out).mono ?_); (case side1 => repeat (first | exact (Kd.R_reads' HO155.out).2.2 | (with_reducible refine Kd.C_alloc ?_ _) | (with_reducible refine Kd.C_drewN ?_ _) | (with_reducible refine Kd.C_drew ?_))); (case side2 => exact (Kd.R_reads' HO155.out).2.1); (case side3 => repeat (first | exact (Kd.R_reads' HO158.out).2.2 | (with_reducible refine Kd.C_alloc ?_ _) | (with_reducible refine Kd.C_drewN ?_ _) | (with_reducible refine Kd.C_drew ?_))); (case side4 => exact (Kd.R_reads' HO158.out).2.1); rintro e w26 ⟨rfl, hb⟩; refine ⟨_, rfl, ?_⟩; have n0_ := Aside0.mk (Kd.R_below (by (with_reducible repeat (first | apply Kd.R_alloc | apply Kd.R_drewN | apply Kd.R_drew)); exact HO155.out) hb); have n1_ := Aside0.mk (Kd.R_below (by (with_reducible repeat (first | apply Kd.R_alloc | apply Kd.R_drewN | apply Kd.R_drew)); exact HO158.out) hb); have n2_ := Aside0.mk (below_step (by repeat (first | (with_reducible first | exact HB.out | apply below_alloc | apply pw_below_drewN | apply below_drew1) | exact HB.out)) hb); clear HO155; clear HO158; clear HB; have HO155 := n0_; have HO158 := n1_; have HB := n2_; clear n0_ n1_ n2_; (try clear hb); (try clear hb2); (try clear hk); (try clear hi)))
            go_ret
            exact ⟨by first | rfl | (simp [errW_none, errW_some] <;> rfl) | (simp [*, errW_none, errW_some] <;> rfl) | (simp (disch := first | assumption | omega) only [Int.tdiv_eq_ediv_of_nonneg, Int.tmod_eq_emod_of_nonneg]; rfl), by repeat (first | (with_reducible first | exact HB.out | apply below_alloc | apply pw_below_drewN | apply below_drew1) | exact HB.out)⟩
        · rw [if_neg c7] at H
          have c7b0 : (t152 == 0) = false := beq_eq_false_iff_ne.mpr c7
          have c7b1 : (t152 != 0) = true := bne_iff_ne.mpr c7
          obtain rfl := Option.some.inj H
          go_enter Try.func9, Try.ntmps9
          go_wp2_with (first | ((with_reducible refine gate_callee (f := 7) rfl ?_); refine goesL_ (some 8) rfl rfl Try.func7 (by kernel_rfl) rfl #[.int .i64 100, .int .i64 3, .int .i64 0, .int .i64 1] rfl (by (try simp only [List.map_toArray, List.map_cons, List.map_nil]); first | done | rfl | (simp only [List.length_drop, List.length_take]; rfl)) ?_; (with_reducible refine (latent_Portion.calls k 100 3 0 1 t149 t150 _ A1.out).mono ?_); rintro e w27 ⟨rfl, hb⟩; refine ⟨_, rfl, ?_⟩; have n0_ := Aside0.mk (below_step (by repeat (first | (with_reducible first | exact HB.out | apply below_alloc | apply pw_below_drewN | apply below_drew1) | exact HB.out)) hb); clear HB; have HB := n0_; clear n0_; (try clear hb); (try clear hb2); (try clear hk); (try clear hi)) | ((with_reducible refine gate_callee (f := 7) rfl ?_); refine goesL_ (some 12) rfl rfl Try.func7 (by kernel_rfl) rfl #[.int .i64 100, .int .i64 3, .int .i64 2, .int .i64 3] rfl (by (try simp only [List.map_toArray, List.map_cons, List.map_nil]); first | done | rfl | (simp only [List.length_drop, List.length_take]; rfl)) ?_; (with_reducible refine (latent_Portion.calls k 100 3 2 3 t151 t152 _ A2.out).mono ?_); rintro e w28 ⟨rfl, hb⟩; refine ⟨_, rfl, ?_⟩; have n0_ := Aside0.mk (below_step (by repeat (first | (with_reducible first | exact HB.out | apply below_alloc | apply pw_below_drewN | apply below_drew1) | exact HB.out)) hb); clear HB; have HB := n0_; clear n0_; (try clear hb); (try clear hb2); (try clear hk); (try clear hi)) | ((with_reducible refine gate_dst (N := 17) rfl ?_); refine Kd.R_lit k45 _ 45 ?hg (N := 17) ?hd (xs := ([(⟨7, 0, 2⟩ : S45)] : List (S45))) (inner := [.int .i64 7, .int .i64 0, .int .i64 2]) (ok := fun _ => True) (okp := fun _ => True) ?hr ?hp (fun _ hk => hk) trivial (Below.refl _ _) (Nat.le_refl _) (by simp) ?_; (case hd => rfl); (case hg => rfl); (case hr => first | (go_simp; done) | (go_simp; rfl)); (case hp => exact (Reps.c3 (show Kd.M k45 _ _ _ (⟨7, 0, 2⟩ : S45) [.int .i64 7, .int .i64 0, .int .i64 2] from (k45_mkM _ _ _ (⟨7, 0, 2⟩ : S45) )) (Reps.none _ _))); intro v154 w29 ho30 hb hg_ hnew_; clear hg_ hnew_; (first | rw [← Ny153.out] at ho30 | (simp only [Int.reduceToNat] at ho30; rw [← Ny153.out] at ho30)); have n0_ := Aside0.mk (Kd.R_lower ho30 (below_size (by repeat (first | (with_reducible first | exact HB.out | apply below_alloc | apply pw_below_drewN | apply below_drew1) | exact HB.out)))); have n1_ := Aside0.mk (below_step (by repeat (first | (with_reducible first | exact HB.out | apply below_alloc | apply pw_below_drewN | apply below_drew1) | exact HB.out)) hb); clear HB; have HO155 := n0_; have HB := n1_; clear n0_ n1_; clear hb ho30) | ((with_reducible refine gate_dst (N := 19) rfl ?_); refine Kd.R_lit k39 _ 39 ?hg (N := 19) ?hd (xs := ([(⟨7, 3, 100⟩ : S39)] : List (S39))) (inner := [.int .i64 7, .int .i64 3, .int .i64 100]) (ok := fun _ => True) (okp := fun _ => True) ?hr ?hp (fun _ hk => hk) trivial (Below.refl _ _) (Nat.le_refl _) (by simp) ?_; (case hd => rfl); (case hg => rfl); (case hr => first | (go_simp; done) | (go_simp; rfl)); (case hp => exact (Reps.c3 (show Kd.M k39 _ _ _ (⟨7, 3, 100⟩ : S39) [.int .i64 7, .int .i64 3, .int .i64 100] from (k39_mkM _ _ _ (⟨7, 3, 100⟩ : S39) )) (Reps.none _ _))); intro v157 w31 ho32 hb hg_ hnew_; clear hg_ hnew_; (first | rw [← Ny156.out] at ho32 | (simp only [Int.reduceToNat] at ho32; rw [← Ny156.out] at ho32)); have n0_ := Aside0.mk (Kd.R_below (by (with_reducible repeat (first | apply Kd.R_alloc | apply Kd.R_drewN | apply Kd.R_drew)); exact HO155.out) hb); have n1_ := Aside0.mk (Kd.R_lower ho32 (below_size (by repeat (first | (with_reducible first | exact HB.out | apply below_alloc | apply pw_below_drewN | apply below_drew1) | exact HB.out)))); have n2_ := Aside0.mk (below_step (by repeat (first | (with_reducible first | exact HB.out | apply below_alloc | apply pw_below_drewN | apply below_drew1) | exact HB.out)) hb); clear HO155; clear HB; have HO155 := n0_; have HO158 := n1_; have HB := n2_; clear n0_ n1_ n2_; clear hb ho32; obtain ⟨Ao33, co33, eo33⟩ := Kd.R_slice HO155.out; subst eo33; obtain ⟨Ao34, co34, eo34⟩ := Kd.R_slice HO158.out; subst eo34) | ((with_reducible refine gate_callee (f := 13) rfl ?_); refine goesL_ (some 20) rfl rfl Try.func13 (by kernel_rfl) rfl #[.slice Ao33 y153.length co33, .slice Ao34 y156.length co34] rfl (by (try simp only [List.map_toArray, List.map_cons, List.map_nil]); first | done | rfl | (simp only [List.length_drop, List.length_take]; rfl)) ?_; (with_reducible refine (latent_Duty.calls k _ _ y153 _ _ y156 t159 t160 _ ?side1 ?side2 ?side3 ?side4 A3.out).mono ?_); (case side1 => repeat (first | exact (Kd.R_reads' HO155.out).2.2 | (with_reducible refine Kd.C_alloc ?_ _) | (with_reducible refine Kd.C_drewN ?_ _) | (with_reducible refine Kd.C_drew ?_))); (case side2 => exact (Kd.R_reads' HO155.out).2.1); (case side3 => repeat (first | exact (Kd.R_reads' HO158.out).2.2 | (with_reducible refine Kd.C_alloc ?_ _) | (with_reducible refine Kd.C_drewN ?_ _) | (with_reducible refine Kd.C_drew ?_))); (case side4 => exact (Kd.R_reads' HO158.out).2.1); rintro e w35 ⟨rfl, hb⟩; refine ⟨_, rfl, ?_⟩; have n0_ := Aside0.mk (Kd.R_below (by (with_reducible repeat (first | apply Kd.R_alloc | apply Kd.R_drewN | apply Kd.R_drew)); exact HO155.out) hb); have n1_ := Aside0.mk (Kd.R_below (by (with_reducible repeat (first | apply Kd.R_alloc | apply Kd.R_drewN | apply Kd.R_drew)); exact HO158.out) hb); have n2_ := Aside0.mk (below_step (by repeat (first | (with_reducible first | exact HB.out | apply below_alloc | apply pw_below_drewN | apply below_drew1) | exact HB.out)) hb); clear HO155; clear HO158; clear HB; have HO155 := n0_; have HO158 := n1_; have HB := n2_; clear n0_ n1_ n2_; (try clear hb); (try clear hb2); (try clear hk); (try clear hi)))
          go_ret
          exact ⟨by first | rfl | (simp [errW_none, errW_some] <;> rfl) | (simp [*, errW_none, errW_some] <;> rfl) | (simp (disch := first | assumption | omega) only [Int.tdiv_eq_ediv_of_nonneg, Int.tmod_eq_emod_of_nonneg]; rfl), by repeat (first | (with_reducible first | exact HB.out | apply below_alloc | apply pw_below_drewN | apply below_drew1) | exact HB.out)⟩
      · rw [if_neg c6] at H
        have c6b0 : (t151 == 34) = false := beq_eq_false_iff_ne.mpr c6
        have c6b1 : (t151 != 34) = true := bne_iff_ne.mpr c6
        obtain rfl := Option.some.inj H
        go_enter Try.func9, Try.ntmps9
        go_wp2_with (first | ((with_reducible refine gate_callee (f := 7) rfl ?_); refine goesL_ (some 8) rfl rfl Try.func7 (by kernel_rfl) rfl #[.int .i64 100, .int .i64 3, .int .i64 0, .int .i64 1] rfl (by (try simp only [List.map_toArray, List.map_cons, List.map_nil]); first | done | rfl | (simp only [List.length_drop, List.length_take]; rfl)) ?_; (with_reducible refine (latent_Portion.calls k 100 3 0 1 t149 t150 _ A1.out).mono ?_); rintro e w36 ⟨rfl, hb⟩; refine ⟨_, rfl, ?_⟩; have n0_ := Aside0.mk (below_step (by repeat (first | (with_reducible first | exact HB.out | apply below_alloc | apply pw_below_drewN | apply below_drew1) | exact HB.out)) hb); clear HB; have HB := n0_; clear n0_; (try clear hb); (try clear hb2); (try clear hk); (try clear hi)) | ((with_reducible refine gate_callee (f := 7) rfl ?_); refine goesL_ (some 12) rfl rfl Try.func7 (by kernel_rfl) rfl #[.int .i64 100, .int .i64 3, .int .i64 2, .int .i64 3] rfl (by (try simp only [List.map_toArray, List.map_cons, List.map_nil]); first | done | rfl | (simp only [List.length_drop, List.length_take]; rfl)) ?_; (with_reducible refine (latent_Portion.calls k 100 3 2 3 t151 t152 _ A2.out).mono ?_); rintro e w37 ⟨rfl, hb⟩; refine ⟨_, rfl, ?_⟩; have n0_ := Aside0.mk (below_step (by repeat (first | (with_reducible first | exact HB.out | apply below_alloc | apply pw_below_drewN | apply below_drew1) | exact HB.out)) hb); clear HB; have HB := n0_; clear n0_; (try clear hb); (try clear hb2); (try clear hk); (try clear hi)) | ((with_reducible refine gate_dst (N := 17) rfl ?_); refine Kd.R_lit k45 _ 45 ?hg (N := 17) ?hd (xs := ([(⟨7, 0, 2⟩ : S45)] : List (S45))) (inner := [.int .i64 7, .int .i64 0, .int .i64 2]) (ok := fun _ => True) (okp := fun _ => True) ?hr ?hp (fun _ hk => hk) trivial (Below.refl _ _) (Nat.le_refl _) (by simp) ?_; (case hd => rfl); (case hg => rfl); (case hr => first | (go_simp; done) | (go_simp; rfl)); (case hp => exact (Reps.c3 (show Kd.M k45 _ _ _ (⟨7, 0, 2⟩ : S45) [.int .i64 7, .int .i64 0, .int .i64 2] from (k45_mkM _ _ _ (⟨7, 0, 2⟩ : S45) )) (Reps.none _ _))); intro v154 w38 ho39 hb hg_ hnew_; clear hg_ hnew_; (first | rw [← Ny153.out] at ho39 | (simp only [Int.reduceToNat] at ho39; rw [← Ny153.out] at ho39)); have n0_ := Aside0.mk (Kd.R_lower ho39 (below_size (by repeat (first | (with_reducible first | exact HB.out | apply below_alloc | apply pw_below_drewN | apply below_drew1) | exact HB.out)))); have n1_ := Aside0.mk (below_step (by repeat (first | (with_reducible first | exact HB.out | apply below_alloc | apply pw_below_drewN | apply below_drew1) | exact HB.out)) hb); clear HB; have HO155 := n0_; have HB := n1_; clear n0_ n1_; clear hb ho39) | ((with_reducible refine gate_dst (N := 19) rfl ?_); refine Kd.R_lit k39 _ 39 ?hg (N := 19) ?hd (xs := ([(⟨7, 3, 100⟩ : S39)] : List (S39))) (inner := [.int .i64 7, .int .i64 3, .int .i64 100]) (ok := fun _ => True) (okp := fun _ => True) ?hr ?hp (fun _ hk => hk) trivial (Below.refl _ _) (Nat.le_refl _) (by simp) ?_; (case hd => rfl); (case hg => rfl); (case hr => first | (go_simp; done) | (go_simp; rfl)); (case hp => exact (Reps.c3 (show Kd.M k39 _ _ _ (⟨7, 3, 100⟩ : S39) [.int .i64 7, .int .i64 3, .int .i64 100] from (k39_mkM _ _ _ (⟨7, 3, 100⟩ : S39) )) (Reps.none _ _))); intro v157 w40 ho41 hb hg_ hnew_; clear hg_ hnew_; (first | rw [← Ny156.out] at ho41 | (simp only [Int.reduceToNat] at ho41; rw [← Ny156.out] at ho41)); have n0_ := Aside0.mk (Kd.R_below (by (with_reducible repeat (first | apply Kd.R_alloc | apply Kd.R_drewN | apply Kd.R_drew)); exact HO155.out) hb); have n1_ := Aside0.mk (Kd.R_lower ho41 (below_size (by repeat (first | (with_reducible first | exact HB.out | apply below_alloc | apply pw_below_drewN | apply below_drew1) | exact HB.out)))); have n2_ := Aside0.mk (below_step (by repeat (first | (with_reducible first | exact HB.out | apply below_alloc | apply pw_below_drewN | apply below_drew1) | exact HB.out)) hb); clear HO155; clear HB; have HO155 := n0_; have HO158 := n1_; have HB := n2_; clear n0_ n1_ n2_; clear hb ho41; obtain ⟨Ao42, co42, eo42⟩ := Kd.R_slice HO155.out; subst eo42; obtain ⟨Ao43, co43, eo43⟩ := Kd.R_slice HO158.out; subst eo43) | ((with_reducible refine gate_callee (f := 13) rfl ?_); refine goesL_ (some 20) rfl rfl Try.func13 (by kernel_rfl) rfl #[.slice Ao42 y153.length co42, .slice Ao43 y156.length co43] rfl (by (try simp only [List.map_toArray, List.map_cons, List.map_nil]); first | done | rfl | (simp only [List.length_drop, List.length_take]; rfl)) ?_; (with_reducible refine (latent_Duty.calls k _ _ y153 _ _ y156 t159 t160 _ ?side1 ?side2 ?side3 ?side4 A3.out).mono ?_); (case side1 => repeat (first | exact (Kd.R_reads' HO155.out).2.2 | (with_reducible refine Kd.C_alloc ?_ _) | (with_reducible refine Kd.C_drewN ?_ _) | (with_reducible refine Kd.C_drew ?_))); (case side2 => exact (Kd.R_reads' HO155.out).2.1); (case side3 => repeat (first | exact (Kd.R_reads' HO158.out).2.2 | (with_reducible refine Kd.C_alloc ?_ _) | (with_reducible refine Kd.C_drewN ?_ _) | (with_reducible refine Kd.C_drew ?_))); (case side4 => exact (Kd.R_reads' HO158.out).2.1); rintro e w44 ⟨rfl, hb⟩; refine ⟨_, rfl, ?_⟩; have n0_ := Aside0.mk (Kd.R_below (by (with_reducible repeat (first | apply Kd.R_alloc | apply Kd.R_drewN | apply Kd.R_drew)); exact HO155.out) hb); have n1_ := Aside0.mk (Kd.R_below (by (with_reducible repeat (first | apply Kd.R_alloc | apply Kd.R_drewN | apply Kd.R_drew)); exact HO158.out) hb); have n2_ := Aside0.mk (below_step (by repeat (first | (with_reducible first | exact HB.out | apply below_alloc | apply pw_below_drewN | apply below_drew1) | exact HB.out)) hb); clear HO155; clear HO158; clear HB; have HO155 := n0_; have HO158 := n1_; have HB := n2_; clear n0_ n1_ n2_; (try clear hb); (try clear hb2); (try clear hk); (try clear hi)))
        go_ret
        exact ⟨by first | rfl | (simp [errW_none, errW_some] <;> rfl) | (simp [*, errW_none, errW_some] <;> rfl) | (simp (disch := first | assumption | omega) only [Int.tdiv_eq_ediv_of_nonneg, Int.tmod_eq_emod_of_nonneg]; rfl), by repeat (first | (with_reducible first | exact HB.out | apply below_alloc | apply pw_below_drewN | apply below_drew1) | exact HB.out)⟩
    · rw [if_neg c5] at H
      have c5b0 : (t150 == 0) = false := beq_eq_false_iff_ne.mpr c5
      have c5b1 : (t150 != 0) = true := bne_iff_ne.mpr c5
      obtain rfl := Option.some.inj H
      go_enter Try.func9, Try.ntmps9
      go_wp2_with (first | ((with_reducible refine gate_callee (f := 7) rfl ?_); refine goesL_ (some 8) rfl rfl Try.func7 (by kernel_rfl) rfl #[.int .i64 100, .int .i64 3, .int .i64 0, .int .i64 1] rfl (by (try simp only [List.map_toArray, List.map_cons, List.map_nil]); first | done | rfl | (simp only [List.length_drop, List.length_take]; rfl)) ?_; (with_reducible refine (latent_Portion.calls k 100 3 0 1 t149 t150 _ A1.out).mono ?_); rintro e w45 ⟨rfl, hb⟩; refine ⟨_, rfl, ?_⟩; have n0_ := Aside0.mk (below_step (by repeat (first | (with_reducible first | exact HB.out | apply below_alloc | apply pw_below_drewN | apply below_drew1) | exact HB.out)) hb); clear HB; have HB := n0_; clear n0_; (try clear hb); (try clear hb2); (try clear hk); (try clear hi)) | ((with_reducible refine gate_callee (f := 7) rfl ?_); refine goesL_ (some 12) rfl rfl Try.func7 (by kernel_rfl) rfl #[.int .i64 100, .int .i64 3, .int .i64 2, .int .i64 3] rfl (by (try simp only [List.map_toArray, List.map_cons, List.map_nil]); first | done | rfl | (simp only [List.length_drop, List.length_take]; rfl)) ?_; (with_reducible refine (latent_Portion.calls k 100 3 2 3 t151 t152 _ A2.out).mono ?_); rintro e w46 ⟨rfl, hb⟩; refine ⟨_, rfl, ?_⟩; have n0_ := Aside0.mk (below_step (by repeat (first | (with_reducible first | exact HB.out | apply below_alloc | apply pw_below_drewN | apply below_drew1) | exact HB.out)) hb); clear HB; have HB := n0_; clear n0_; (try clear hb); (try clear hb2); (try clear hk); (try clear hi)) | ((with_reducible refine gate_dst (N := 17) rfl ?_); refine Kd.R_lit k45 _ 45 ?hg (N := 17) ?hd (xs := ([(⟨7, 0, 2⟩ : S45)] : List (S45))) (inner := [.int .i64 7, .int .i64 0, .int .i64 2]) (ok := fun _ => True) (okp := fun _ => True) ?hr ?hp (fun _ hk => hk) trivial (Below.refl _ _) (Nat.le_refl _) (by simp) ?_; (case hd => rfl); (case hg => rfl); (case hr => first | (go_simp; done) | (go_simp; rfl)); (case hp => exact (Reps.c3 (show Kd.M k45 _ _ _ (⟨7, 0, 2⟩ : S45) [.int .i64 7, .int .i64 0, .int .i64 2] from (k45_mkM _ _ _ (⟨7, 0, 2⟩ : S45) )) (Reps.none _ _))); intro v154 w47 ho48 hb hg_ hnew_; clear hg_ hnew_; (first | rw [← Ny153.out] at ho48 | (simp only [Int.reduceToNat] at ho48; rw [← Ny153.out] at ho48)); have n0_ := Aside0.mk (Kd.R_lower ho48 (below_size (by repeat (first | (with_reducible first | exact HB.out | apply below_alloc | apply pw_below_drewN | apply below_drew1) | exact HB.out)))); have n1_ := Aside0.mk (below_step (by repeat (first | (with_reducible first | exact HB.out | apply below_alloc | apply pw_below_drewN | apply below_drew1) | exact HB.out)) hb); clear HB; have HO155 := n0_; have HB := n1_; clear n0_ n1_; clear hb ho48) | ((with_reducible refine gate_dst (N := 19) rfl ?_); refine Kd.R_lit k39 _ 39 ?hg (N := 19) ?hd (xs := ([(⟨7, 3, 100⟩ : S39)] : List (S39))) (inner := [.int .i64 7, .int .i64 3, .int .i64 100]) (ok := fun _ => True) (okp := fun _ => True) ?hr ?hp (fun _ hk => hk) trivial (Below.refl _ _) (Nat.le_refl _) (by simp) ?_; (case hd => rfl); (case hg => rfl); (case hr => first | (go_simp; done) | (go_simp; rfl)); (case hp => exact (Reps.c3 (show Kd.M k39 _ _ _ (⟨7, 3, 100⟩ : S39) [.int .i64 7, .int .i64 3, .int .i64 100] from (k39_mkM _ _ _ (⟨7, 3, 100⟩ : S39) )) (Reps.none _ _))); intro v157 w49 ho50 hb hg_ hnew_; clear hg_ hnew_; (first | rw [← Ny156.out] at ho50 | (simp only [Int.reduceToNat] at ho50; rw [← Ny156.out] at ho50)); have n0_ := Aside0.mk (Kd.R_below (by (with_reducible repeat (first | apply Kd.R_alloc | apply Kd.R_drewN | apply Kd.R_drew)); exact HO155.out) hb); have n1_ := Aside0.mk (Kd.R_lower ho50 (below_size (by repeat (first | (with_reducible first | exact HB.out | apply below_alloc | apply pw_below_drewN | apply below_drew1) | exact HB.out)))); have n2_ := Aside0.mk (below_step (by repeat (first | (with_reducible first | exact HB.out | apply below_alloc | apply pw_below_drewN | apply below_drew1) | exact HB.out)) hb); clear HO155; clear HB; have HO155 := n0_; have HO158 := n1_; have HB := n2_; clear n0_ n1_ n2_; clear hb ho50; obtain ⟨Ao51, co51, eo51⟩ := Kd.R_slice HO155.out; subst eo51; obtain ⟨Ao52, co52, eo52⟩ := Kd.R_slice HO158.out; subst eo52) | ((with_reducible refine gate_callee (f := 13) rfl ?_); refine goesL_ (some 20) rfl rfl Try.func13 (by kernel_rfl) rfl #[.slice Ao51 y153.length co51, .slice Ao52 y156.length co52] rfl (by (try simp only [List.map_toArray, List.map_cons, List.map_nil]); first | done | rfl | (simp only [List.length_drop, List.length_take]; rfl)) ?_; (with_reducible refine (latent_Duty.calls k _ _ y153 _ _ y156 t159 t160 _ ?side1 ?side2 ?side3 ?side4 A3.out).mono ?_); (case side1 => repeat (first | exact (Kd.R_reads' HO155.out).2.2 | (with_reducible refine Kd.C_alloc ?_ _) | (with_reducible refine Kd.C_drewN ?_ _) | (with_reducible refine Kd.C_drew ?_))); (case side2 => exact (Kd.R_reads' HO155.out).2.1); (case side3 => repeat (first | exact (Kd.R_reads' HO158.out).2.2 | (with_reducible refine Kd.C_alloc ?_ _) | (with_reducible refine Kd.C_drewN ?_ _) | (with_reducible refine Kd.C_drew ?_))); (case side4 => exact (Kd.R_reads' HO158.out).2.1); rintro e w53 ⟨rfl, hb⟩; refine ⟨_, rfl, ?_⟩; have n0_ := Aside0.mk (Kd.R_below (by (with_reducible repeat (first | apply Kd.R_alloc | apply Kd.R_drewN | apply Kd.R_drew)); exact HO155.out) hb); have n1_ := Aside0.mk (Kd.R_below (by (with_reducible repeat (first | apply Kd.R_alloc | apply Kd.R_drewN | apply Kd.R_drew)); exact HO158.out) hb); have n2_ := Aside0.mk (below_step (by repeat (first | (with_reducible first | exact HB.out | apply below_alloc | apply pw_below_drewN | apply below_drew1) | exact HB.out)) hb); clear HO155; clear HO158; clear HB; have HO155 := n0_; have HO158 := n1_; have HB := n2_; clear n0_ n1_ n2_; (try clear hb); (try clear hb2); (try clear hk); (try clear hi)))
      go_ret
      exact ⟨by first | rfl | (simp [errW_none, errW_some] <;> rfl) | (simp [*, errW_none, errW_some] <;> rfl) | (simp (disch := first | assumption | omega) only [Int.tdiv_eq_ediv_of_nonneg, Int.tmod_eq_emod_of_nonneg]; rfl), by repeat (first | (with_reducible first | exact HB.out | apply below_alloc | apply pw_below_drewN | apply below_drew1) | exact HB.out)⟩
  · rw [if_neg c4] at H
    have c4b0 : (t149 == 33) = false := beq_eq_false_iff_ne.mpr c4
    have c4b1 : (t149 != 33) = true := bne_iff_ne.mpr c4
    obtain rfl := Option.some.inj H
    go_enter Try.func9, Try.ntmps9
    go_wp2_with (first | ((with_reducible refine gate_callee (f := 7) rfl ?_); refine goesL_ (some 8) rfl rfl Try.func7 (by kernel_rfl) rfl #[.int .i64 100, .int .i64 3, .int .i64 0, .int .i64 1] rfl (by (try simp only [List.map_toArray, List.map_cons, List.map_nil]); first | done | rfl | (simp only [List.length_drop, List.length_take]; rfl)) ?_; (with_reducible refine (latent_Portion.calls k 100 3 0 1 t149 t150 _ A1.out).mono ?_); rintro e w54 ⟨rfl, hb⟩; refine ⟨_, rfl, ?_⟩; have n0_ := Aside0.mk (below_step (by repeat (first | (with_reducible first | exact HB.out | apply below_alloc | apply pw_below_drewN | apply below_drew1) | exact HB.out)) hb); clear HB; have HB := n0_; clear n0_; (try clear hb); (try clear hb2); (try clear hk); (try clear hi)) | ((with_reducible refine gate_callee (f := 7) rfl ?_); refine goesL_ (some 12) rfl rfl Try.func7 (by kernel_rfl) rfl #[.int .i64 100, .int .i64 3, .int .i64 2, .int .i64 3] rfl (by (try simp only [List.map_toArray, List.map_cons, List.map_nil]); first | done | rfl | (simp only [List.length_drop, List.length_take]; rfl)) ?_; (with_reducible refine (latent_Portion.calls k 100 3 2 3 t151 t152 _ A2.out).mono ?_); rintro e w55 ⟨rfl, hb⟩; refine ⟨_, rfl, ?_⟩; have n0_ := Aside0.mk (below_step (by repeat (first | (with_reducible first | exact HB.out | apply below_alloc | apply pw_below_drewN | apply below_drew1) | exact HB.out)) hb); clear HB; have HB := n0_; clear n0_; (try clear hb); (try clear hb2); (try clear hk); (try clear hi)) | ((with_reducible refine gate_dst (N := 17) rfl ?_); refine Kd.R_lit k45 _ 45 ?hg (N := 17) ?hd (xs := ([(⟨7, 0, 2⟩ : S45)] : List (S45))) (inner := [.int .i64 7, .int .i64 0, .int .i64 2]) (ok := fun _ => True) (okp := fun _ => True) ?hr ?hp (fun _ hk => hk) trivial (Below.refl _ _) (Nat.le_refl _) (by simp) ?_; (case hd => rfl); (case hg => rfl); (case hr => first | (go_simp; done) | (go_simp; rfl)); (case hp => exact (Reps.c3 (show Kd.M k45 _ _ _ (⟨7, 0, 2⟩ : S45) [.int .i64 7, .int .i64 0, .int .i64 2] from (k45_mkM _ _ _ (⟨7, 0, 2⟩ : S45) )) (Reps.none _ _))); intro v154 w56 ho57 hb hg_ hnew_; clear hg_ hnew_; (first | rw [← Ny153.out] at ho57 | (simp only [Int.reduceToNat] at ho57; rw [← Ny153.out] at ho57)); have n0_ := Aside0.mk (Kd.R_lower ho57 (below_size (by repeat (first | (with_reducible first | exact HB.out | apply below_alloc | apply pw_below_drewN | apply below_drew1) | exact HB.out)))); have n1_ := Aside0.mk (below_step (by repeat (first | (with_reducible first | exact HB.out | apply below_alloc | apply pw_below_drewN | apply below_drew1) | exact HB.out)) hb); clear HB; have HO155 := n0_; have HB := n1_; clear n0_ n1_; clear hb ho57) | ((with_reducible refine gate_dst (N := 19) rfl ?_); refine Kd.R_lit k39 _ 39 ?hg (N := 19) ?hd (xs := ([(⟨7, 3, 100⟩ : S39)] : List (S39))) (inner := [.int .i64 7, .int .i64 3, .int .i64 100]) (ok := fun _ => True) (okp := fun _ => True) ?hr ?hp (fun _ hk => hk) trivial (Below.refl _ _) (Nat.le_refl _) (by simp) ?_; (case hd => rfl); (case hg => rfl); (case hr => first | (go_simp; done) | (go_simp; rfl)); (case hp => exact (Reps.c3 (show Kd.M k39 _ _ _ (⟨7, 3, 100⟩ : S39) [.int .i64 7, .int .i64 3, .int .i64 100] from (k39_mkM _ _ _ (⟨7, 3, 100⟩ : S39) )) (Reps.none _ _))); intro v157 w58 ho59 hb hg_ hnew_; clear hg_ hnew_; (first | rw [← Ny156.out] at ho59 | (simp only [Int.reduceToNat] at ho59; rw [← Ny156.out] at ho59)); have n0_ := Aside0.mk (Kd.R_below (by (with_reducible repeat (first | apply Kd.R_alloc | apply Kd.R_drewN | apply Kd.R_drew)); exact HO155.out) hb); have n1_ := Aside0.mk (Kd.R_lower ho59 (below_size (by repeat (first | (with_reducible first | exact HB.out | apply below_alloc | apply pw_below_drewN | apply below_drew1) | exact HB.out)))); have n2_ := Aside0.mk (below_step (by repeat (first | (with_reducible first | exact HB.out | apply below_alloc | apply pw_below_drewN | apply below_drew1) | exact HB.out)) hb); clear HO155; clear HB; have HO155 := n0_; have HO158 := n1_; have HB := n2_; clear n0_ n1_ n2_; clear hb ho59; obtain ⟨Ao60, co60, eo60⟩ := Kd.R_slice HO155.out; subst eo60; obtain ⟨Ao61, co61, eo61⟩ := Kd.R_slice HO158.out; subst eo61) | ((with_reducible refine gate_callee (f := 13) rfl ?_); refine goesL_ (some 20) rfl rfl Try.func13 (by kernel_rfl) rfl #[.slice Ao60 y153.length co60, .slice Ao61 y156.length co61] rfl (by (try simp only [List.map_toArray, List.map_cons, List.map_nil]); first | done | rfl | (simp only [List.length_drop, List.length_take]; rfl)) ?_; (with_reducible refine (latent_Duty.calls k _ _ y153 _ _ y156 t159 t160 _ ?side1 ?side2 ?side3 ?side4 A3.out).mono ?_); (case side1 => repeat (first | exact (Kd.R_reads' HO155.out).2.2 | (with_reducible refine Kd.C_alloc ?_ _) | (with_reducible refine Kd.C_drewN ?_ _) | (with_reducible refine Kd.C_drew ?_))); (case side2 => exact (Kd.R_reads' HO155.out).2.1); (case side3 => repeat (first | exact (Kd.R_reads' HO158.out).2.2 | (with_reducible refine Kd.C_alloc ?_ _) | (with_reducible refine Kd.C_drewN ?_ _) | (with_reducible refine Kd.C_drew ?_))); (case side4 => exact (Kd.R_reads' HO158.out).2.1); rintro e w62 ⟨rfl, hb⟩; refine ⟨_, rfl, ?_⟩; have n0_ := Aside0.mk (Kd.R_below (by (with_reducible repeat (first | apply Kd.R_alloc | apply Kd.R_drewN | apply Kd.R_drew)); exact HO155.out) hb); have n1_ := Aside0.mk (Kd.R_below (by (with_reducible repeat (first | apply Kd.R_alloc | apply Kd.R_drewN | apply Kd.R_drew)); exact HO158.out) hb); have n2_ := Aside0.mk (below_step (by repeat (first | (with_reducible first | exact HB.out | apply below_alloc | apply pw_below_drewN | apply below_drew1) | exact HB.out)) hb); clear HO155; clear HO158; clear HB; have HO155 := n0_; have HO158 := n1_; have HB := n2_; clear n0_ n1_ n2_; (try clear hb); (try clear hb2); (try clear hk); (try clear hi)))
    go_ret
    exact ⟨by first | rfl | (simp [errW_none, errW_some] <;> rfl) | (simp [*, errW_none, errW_some] <;> rfl) | (simp (disch := first | assumption | omega) only [Int.tdiv_eq_ediv_of_nonneg, Int.tmod_eq_emod_of_nonneg]; rfl), by repeat (first | (with_reducible first | exact HB.out | apply below_alloc | apply pw_below_drewN | apply below_drew1) | exact HB.out)⟩

end Go.Proofs.Ythbkooonlhldnaa.PX
end
section
namespace Go.Proofs.Ythbkooonlhldnaa.PX
open Go.RowKit Go.Proofs.YthbkooonlhldnaaW.PrintWords Go.Proofs.YthbkooonlhldnaaW.PrintLast Go.Proofs.YthbkooonlhldnaaW.PrintMore
attribute [local go_sem] max2_int min2_int max_two min_two max_three min_three max_four min_four   -- for this text's walks alone
set_option linter.unusedVariables false
set_option linter.unusedSimpArgs false

/-! ### customsmade_Within: function 6 -/
def customsmade_Within.f (a0 : Int) (a1 : Int) : Option (Int) := if a1 = 0 then (none) else (some (Int.tmod (wrap64 ((Int.tmod a0 a1) + a1)) a1))
set_option maxHeartbeats 8000000 in
set_option maxRecDepth 100000 in
theorem customsmade_Within.calls (a0 : Int) (a1 : Int) (r : Int) (w : World) (h : customsmade_Within.f a0 a1 = some r) :
    Calls Try.prog 6 #[.int .i64 a0, .int .i64 a1] w fun e w' => e = .returned (.int .i64 r) ∧ Drawn0 w w' := by
  have H : (if a1 = 0 then (none) else (some (Int.tmod (wrap64 ((Int.tmod a0 a1) + a1)) a1))) = some r := h
  clear h
  by_cases c3 : a1 = 0
  · rw [if_pos c3] at H
    exact absurd H (by simp)
  · rw [if_neg c3] at H
    have c3b0 : (a1 == 0) = false := beq_eq_false_iff_ne.mpr c3
    have c3b1 : (a1 != 0) = true := bne_iff_ne.mpr c3
    obtain rfl := Option.some.inj H
    go_enter Try.func6, Try.ntmps6
    go_wp2
    go_ret
    exact ⟨by first | rfl | (simp; done) | (simp [*]; done), by repeat (first | exact Drawn0.refl _ | apply Drawn0.step)⟩

end Go.Proofs.Ythbkooonlhldnaa.PX
end
section
namespace Go.Proofs.Ythbkooonlhldnaa.PX
open Go.RowKit Go.Proofs.YthbkooonlhldnaaW.PrintWords Go.Proofs.YthbkooonlhldnaaW.PrintLast Go.Proofs.YthbkooonlhldnaaW.PrintMore
attribute [local go_sem] max2_int min2_int max_two min_two max_three min_three max_four min_four   -- for this text's walks alone
set_option linter.unusedVariables false
set_option linter.unusedSimpArgs false

/-! ### customsref21_MulDiv: function 18 -/
mutual
def customsref21_MulDiv.l0 : Nat → Int → Int → Int → Int → Int → Int → Int → Option (Int)
  | 0, _, _, _, _, _, _, _ => none
  | k + 1, x1, x2, x7, x8, x9, x10, x11 => if x11 ≥ 0 then (if (wrap64 (2 * x10)) ≥ x2 then (customsref21_MulDiv.j1 k x1 x2 x7 x8 (wrap64 ((wrap64 (2 * x9)) + 1)) (wrap64 ((wrap64 (2 * x10)) - x2)) x11) else (customsref21_MulDiv.j1 k x1 x2 x7 x8 (wrap64 (2 * x9)) (wrap64 (2 * x10)) x11)) else (some (wrap64 (x7 + x9)))
def customsref21_MulDiv.j1 : Nat → Int → Int → Int → Int → Int → Int → Int → Option (Int)
  | 0, _, _, _, _, _, _, _ => none
  | k + 1, x1, x2, x7, x8, x9, x10, x11 => if 0 ≤ x11 then (if (Go.bits .and .i64 (shr .i64 x1 x11) 1) = 1 then (if (wrap64 (x10 + x8)) ≥ x2 then (customsref21_MulDiv.l0 k x1 x2 x7 x8 (wrap64 (x9 + 1)) (wrap64 ((wrap64 (x10 + x8)) - x2)) (wrap64 (x11 - 1))) else (customsref21_MulDiv.l0 k x1 x2 x7 x8 x9 (wrap64 (x10 + x8)) (wrap64 (x11 - 1)))) else (customsref21_MulDiv.l0 k x1 x2 x7 x8 x9 x10 (wrap64 (x11 - 1)))) else (none)
end
def customsref21_MulDiv.f (k : Nat) (a0 : Int) (a1 : Int) (a2 : Int) : Option (Int) := if a2 = 0 then (none) else (customsref21_MulDiv.l0 k a1 a2 (wrap64 ((wrap64 (Int.tdiv a0 a2)) * a1)) (Int.tmod a0 a2) 0 0 60)
set_option maxHeartbeats 8000000 in
set_option maxRecDepth 100000 in
theorem customsref21_MulDiv.calls (k : Nat) (a0 : Int) (a1 : Int) (a2 : Int) (r : Int) (w : World) (h : customsref21_MulDiv.f k a0 a1 a2 = some r) :
    Calls Try.prog 18 #[.int .i64 a0, .int .i64 a1, .int .i64 a2] w fun e w' => e = .returned (.int .i64 r) ∧ Drawn0 w w' := by
  have H : (if a2 = 0 then (none) else (customsref21_MulDiv.l0 k a1 a2 (wrap64 ((wrap64 (Int.tdiv a0 a2)) * a1)) (Int.tmod a0 a2) 0 0 60)) = some r := h
  clear h
  by_cases c4 : a2 = 0
  · rw [if_pos c4] at H
    exact absurd H (by simp)
  · rw [if_neg c4] at H
    have c4b0 : (a2 == 0) = false := beq_eq_false_iff_ne.mpr c4
    have c4b1 : (a2 != 0) = true := bne_iff_ne.mpr c4
    have H' := Aside0.mk H
    clear H
    go_enter Try.func18, Try.ntmps18
    go_wp2
    repeat (go_quiet (fail); try go_wp2)
    go_loopg [9, 10, 11] k (fun kq v9 v10 v11 w' => ∃ (x9_1 : Int) (x10_1 : Int) (x11_1 : Int), v9 = .int .i64 x9_1 ∧ v10 = .int .i64 x10_1 ∧ v11 = .int .i64 x11_1 ∧ Aside0 (customsref21_MulDiv.l0 kq a1 a2 (wrap64 ((wrap64 (Int.tdiv a0 a2)) * a1)) (Int.tmod a0 a2) x9_1 x10_1 x11_1 = some r) ∧ Aside0 (kq ≤ k) ∧ Drawn0 w w')
    case atStart => exact ⟨(0), (0), (60), (by first | rfl | (simp; done) | (simp [*]; done)), (by first | rfl | (simp; done) | (simp [*]; done)), (by first | rfl | (simp; done) | (simp [*]; done)), H', ⟨Nat.le_refl _⟩, by repeat (first | exact Drawn0.refl _ | apply Drawn0.step)⟩
    case round =>
      clear H'
      try clear c1
      try clear p2
      try clear c4
      try clear c4b0
      try clear c4b1
      obtain ⟨x9_1, x10_1, x11_1, rfl, rfl, rfl, HA, HK1, ⟨m1, rfl⟩⟩ := hrel
      cases gk with
      | zero => exact absurd HA.out (by simp [customsref21_MulDiv.l0])
      | succ k1 =>
        have H := HA.out
        clear HA
        simp only [customsref21_MulDiv.l0] at H
        by_cases c5 : x11_1 ≥ 0
        · rw [if_pos c5] at H
          have c5b0 : decide (0 ≤ x11_1) = true := decide_eq_true c5
          clear c5
          have HC6 := Aside0.mk H
          clear H
          go_upto_if 30 with (fail)
          repeat (go_quiet (fail); go_upto_if 30 with (fail))
          go_cut [9, 10] (fun v9 v10 wc => ∃ (kq : Nat) (x9_5 : Int) (x10_5 : Int), v9 = .int .i64 x9_5 ∧ v10 = .int .i64 x10_5 ∧ Aside0 (customsref21_MulDiv.j1 kq a1 a2 (wrap64 ((wrap64 (Int.tdiv a0 a2)) * a1)) (Int.tmod a0 a2) x9_5 x10_5 x11_1 = some r) ∧ Aside0 (kq ≤ k1) ∧ Drawn0 w wc)
          case first =>
            have H := HC6.out
            clear HC6
            by_cases c7 : (wrap64 (2 * x10_1)) ≥ a2
            · rw [if_pos c7] at H
              have c7b0 : decide (a2 ≤ (wrap64 (2 * x10_1))) = true := decide_eq_true c7
              clear c7
              (first | rw [c7b0] | (simp only [i64_w, i32_w]; rw [c7b0]) | skip)
              have H' := Aside0.mk H
              clear H
              go_wp2
              repeat (go_quiet (fail); try go_wp2)
              go_meet
              case rel => exact ⟨_, (wrap64 ((wrap64 (2 * x9_1)) + 1)), (wrap64 ((wrap64 (2 * x10_1)) - a2)), (by first | rfl | (simp; done) | (simp [*]; done)), (by first | rfl | (simp; done) | (simp [*]; done)), H', ⟨by have := HK1.out; first | omega | exact Nat.le_refl _⟩, by repeat (first | exact Drawn0.refl _ | apply Drawn0.step)⟩
            · rw [if_neg c7] at H
              have c7b0 : decide (a2 ≤ (wrap64 (2 * x10_1))) = false := decide_eq_false c7
              clear c7
              (first | rw [c7b0] | (simp only [i64_w, i32_w]; rw [c7b0]) | skip)
              have H' := Aside0.mk H
              clear H
              go_wp2
              repeat (go_quiet (fail); try go_wp2)
              go_meet
              case rel => exact ⟨_, (wrap64 (2 * x9_1)), (wrap64 (2 * x10_1)), (by first | rfl | (simp; done) | (simp [*]; done)), (by first | rfl | (simp; done) | (simp [*]; done)), H', ⟨by have := HK1.out; first | omega | exact Nat.le_refl _⟩, by repeat (first | exact Drawn0.refl _ | apply Drawn0.step)⟩
          case rest =>
            clear HC6
            try clear c1
            try clear p2
            try clear c4
            try clear c4b0
            try clear c4b1
            try clear c5
            try clear c5b0
            try clear p6
            try clear c7
            try clear c7b0
            try clear p2
            obtain ⟨kq, x9_5, x10_5, rfl, rfl, HA, HJ5, ⟨mc5, rfl⟩⟩ := hcut
            cases kq with
            | zero => exact absurd HA.out (by simp [customsref21_MulDiv.j1])
            | succ kj5 =>
              have H := HA.out
              clear HA
              simp only [customsref21_MulDiv.j1] at H
              by_cases c8 : 0 ≤ x11_1
              · rw [if_pos c8] at H
                have c8b0 := eq_true c8
                have c8b1 : decide (0 ≤ x11_1) = true := decide_eq_true c8
                clear c8
                obtain ⟨ji9, hji9⟩ : ∃ j_ : Int, (shr .i64 a1 x11_1) = j_ := ⟨_, rfl⟩
                replace H : (if (Go.bits .and .i64 (ji9) 1) = 1 then (if (wrap64 (x10_5 + (Int.tmod a0 a2))) ≥ a2 then (customsref21_MulDiv.l0 kj5 a1 a2 (wrap64 ((wrap64 (Int.tdiv a0 a2)) * a1)) (Int.tmod a0 a2) (wrap64 (x9_5 + 1)) (wrap64 ((wrap64 (x10_5 + (Int.tmod a0 a2))) - a2)) (wrap64 (x11_1 - 1))) else (customsref21_MulDiv.l0 kj5 a1 a2 (wrap64 ((wrap64 (Int.tdiv a0 a2)) * a1)) (Int.tmod a0 a2) x9_5 (wrap64 (x10_5 + (Int.tmod a0 a2))) (wrap64 (x11_1 - 1)))) else (customsref21_MulDiv.l0 kj5 a1 a2 (wrap64 ((wrap64 (Int.tdiv a0 a2)) * a1)) (Int.tmod a0 a2) x9_5 x10_5 (wrap64 (x11_1 - 1)))) = some r := by first | (rw [hji9] at H; exact H) | (simp only [hji9] at H ⊢; exact H)
                have hji9_ : (a1 / 2 ^ min x11_1.toNat 64) = ji9 := hji9
                have hji9z : x11_1 ≤ 64 → (a1 / 2 ^ x11_1.toNat) = ji9 := shr_small hji9
                by_cases c10 : (Go.bits .and .i64 (ji9) 1) = 1
                · rw [if_pos c10] at H
                  have c10b0 : ((Go.bits .and .i64 (ji9) 1) == 1) = true := beq_iff_eq.mpr c10
                  have c10b1 : ((Go.bits .and .i64 (ji9) 1) != 1) = false := bne_eq_false_iff_eq.mpr c10
                  clear c10
                  by_cases c11 : (wrap64 (x10_5 + (Int.tmod a0 a2))) ≥ a2
                  · rw [if_pos c11] at H
                    have c11b0 : decide (a2 ≤ (wrap64 (x10_5 + (Int.tmod a0 a2)))) = true := decide_eq_true c11
                    clear c11
                    have H' := Aside0.mk H
                    clear H
                    go_wp2
                    repeat (go_quiet (fail); try go_wp2)
                    go_roundg kj5
                    case measure => have := HK1.out; have := HJ5.out; omega
                    case rel => exact ⟨(wrap64 (x9_5 + 1)), (wrap64 ((wrap64 (x10_5 + (Int.tmod a0 a2))) - a2)), (wrap64 (x11_1 - 1)), (by first | rfl | (simp; done) | (simp [*]; done)), (by first | rfl | (simp; done) | (simp [*]; done)), (by first | rfl | (simp; done) | (simp [*]; done)), H', ⟨by have := HK1.out; have := HJ5.out; omega⟩, by repeat (first | exact Drawn0.refl _ | apply Drawn0.step)⟩
                  · rw [if_neg c11] at H
                    have c11b0 : decide (a2 ≤ (wrap64 (x10_5 + (Int.tmod a0 a2)))) = false := decide_eq_false c11
                    clear c11
                    have H' := Aside0.mk H
                    clear H
                    go_wp2
                    repeat (go_quiet (fail); try go_wp2)
                    go_roundg kj5
                    case measure => have := HK1.out; have := HJ5.out; omega
                    case rel => exact ⟨(x9_5), (wrap64 (x10_5 + (Int.tmod a0 a2))), (wrap64 (x11_1 - 1)), (by first | rfl | (simp; done) | (simp [*]; done)), (by first | rfl | (simp; done) | (simp [*]; done)), (by first | rfl | (simp; done) | (simp [*]; done)), H', ⟨by have := HK1.out; have := HJ5.out; omega⟩, by repeat (first | exact Drawn0.refl _ | apply Drawn0.step)⟩
                · rw [if_neg c10] at H
                  have c10b0 : ((Go.bits .and .i64 (ji9) 1) == 1) = false := beq_eq_false_iff_ne.mpr c10
                  have c10b1 : ((Go.bits .and .i64 (ji9) 1) != 1) = true := bne_iff_ne.mpr c10
                  have H' := Aside0.mk H
                  clear H
                  go_wp2
                  repeat (go_quiet (fail); try go_wp2)
                  go_roundg kj5
                  case measure => have := HK1.out; have := HJ5.out; omega
                  case rel => exact ⟨(x9_5), (x10_5), (wrap64 (x11_1 - 1)), (by first | rfl | (simp; done) | (simp [*]; done)), (by first | rfl | (simp; done) | (simp [*]; done)), (by first | rfl | (simp; done) | (simp [*]; done)), H', ⟨by have := HK1.out; have := HJ5.out; omega⟩, by repeat (first | exact Drawn0.refl _ | apply Drawn0.step)⟩
              · rw [if_neg c8] at H
                exact absurd H (by simp)
        · rw [if_neg c5] at H
          have c5b0 : decide (0 ≤ x11_1) = false := decide_eq_false c5
          clear c5
          obtain rfl := Option.some.inj H
          go_wp2
          repeat (go_quiet (fail); try go_wp2)
          go_ret
          exact ⟨by first | rfl | (simp; done) | (simp [*]; done), by repeat (first | exact Drawn0.refl _ | apply Drawn0.step)⟩

end Go.Proofs.Ythbkooonlhldnaa.PX
end
section
namespace Go.Proofs.Ythbkooonlhldnaa.PX
open Go.RowKit Go.Proofs.YthbkooonlhldnaaW.PrintWords Go.Proofs.YthbkooonlhldnaaW.PrintLast Go.Proofs.YthbkooonlhldnaaW.PrintMore
attribute [local go_sem] max2_int min2_int max_two min_two max_three min_three max_four min_four   -- for this text's walks alone
set_option linter.unusedVariables false
set_option linter.unusedSimpArgs false

/-! ### customsref27_Portion: function 8 -/
def customsref27_Portion.j0 : Nat → Int → Int → Int → Int → Bool → Option (Int × Int)
  | 0, _, _, _, _, _ => none
  | k + 1, x0, x1, x2, x3, x37 => if x37 = true then (some (0, 2)) else ((customsref21_MulDiv.f k x0 x3 x1).bind fun t119 => ((customsref21_MulDiv.f k x0 x2 x1).bind fun t120 => (some (wrap64 (t119 - t120), 0))))
def customsref27_Portion.f (k : Nat) (a0 : Int) (a1 : Int) (a2 : Int) (a3 : Int) : Option (Int × Int) := if a0 < 0 then (customsref27_Portion.j0 k a0 a1 a2 a3 true) else (if a0 > 1000000000000 then (customsref27_Portion.j0 k a0 a1 a2 a3 true) else (if a1 < 1 then (customsref27_Portion.j0 k a0 a1 a2 a3 true) else (if a1 > 1000000000 then (customsref27_Portion.j0 k a0 a1 a2 a3 true) else (if a2 < 0 then (customsref27_Portion.j0 k a0 a1 a2 a3 true) else (if a2 > a3 then (customsref27_Portion.j0 k a0 a1 a2 a3 true) else (customsref27_Portion.j0 k a0 a1 a2 a3 (decide (a3 > a1))))))))
set_option maxHeartbeats 8000000 in
set_option maxRecDepth 100000 in
theorem customsref27_Portion.calls (k : Nat) (a0 : Int) (a1 : Int) (a2 : Int) (a3 : Int) (r1 : Int) (r2 : Int) (w : World) (h : customsref27_Portion.f k a0 a1 a2 a3 = some (r1, r2)) :
    Calls Try.prog 8 #[.int .i64 a0, .int .i64 a1, .int .i64 a2, .int .i64 a3] w fun e w' => e = .returned (.tuple #[.int .i64 r1, .int .i64 r2]) ∧ Drawn0 w w' := by
  have H : (if a0 < 0 then (customsref27_Portion.j0 k a0 a1 a2 a3 true) else (if a0 > 1000000000000 then (customsref27_Portion.j0 k a0 a1 a2 a3 true) else (if a1 < 1 then (customsref27_Portion.j0 k a0 a1 a2 a3 true) else (if a1 > 1000000000 then (customsref27_Portion.j0 k a0 a1 a2 a3 true) else (if a2 < 0 then (customsref27_Portion.j0 k a0 a1 a2 a3 true) else (if a2 > a3 then (customsref27_Portion.j0 k a0 a1 a2 a3 true) else (customsref27_Portion.j0 k a0 a1 a2 a3 (decide (a3 > a1))))))))) = some (r1, r2) := h
  clear h
  have HC5 := Aside0.mk H
  clear H
  go_enter Try.func8, Try.ntmps8
  go_upto_region 1 with (fail)
  go_cut [37] (fun v37 wc => ∃ (kq : Nat) (x37_4 : Bool), v37 = .bool x37_4 ∧ Aside0 (customsref27_Portion.j0 kq a0 a1 a2 a3 x37_4 = some (r1, r2)) ∧ Aside0 (kq ≤ k) ∧ Drawn0 w wc)
  case first =>
    have H := HC5.out
    clear HC5
    by_cases c6 : a0 < 0
    · rw [if_pos c6] at H
      have c6b0 : decide (a0 < 0) = true := decide_eq_true c6
      clear c6
      (first | rw [c6b0] | (simp only [i64_w, i32_w]; rw [c6b0]) | skip)
      have H' := Aside0.mk H
      clear H
      go_wp2
      go_meet
      case rel => exact ⟨_, (true), (by first | rfl | (simp; done) | (simp [*]; done)), H', ⟨by first | omega | exact Nat.le_refl _⟩, by repeat (first | exact Drawn0.refl _ | apply Drawn0.step)⟩
    · rw [if_neg c6] at H
      have c6b0 : decide (a0 < 0) = false := decide_eq_false c6
      clear c6
      (first | rw [c6b0] | (simp only [i64_w, i32_w]; rw [c6b0]) | skip)
      by_cases c7 : a0 > 1000000000000
      · rw [if_pos c7] at H
        have c7b0 : decide (1000000000000 < a0) = true := decide_eq_true c7
        clear c7
        have H' := Aside0.mk H
        clear H
        go_wp2
        go_meet
        case rel => exact ⟨_, (true), (by first | rfl | (simp; done) | (simp [*]; done)), H', ⟨by first | omega | exact Nat.le_refl _⟩, by repeat (first | exact Drawn0.refl _ | apply Drawn0.step)⟩
      · rw [if_neg c7] at H
        have c7b0 : decide (1000000000000 < a0) = false := decide_eq_false c7
        clear c7
        by_cases c8 : a1 < 1
        · rw [if_pos c8] at H
          have c8b0 : decide (a1 < 1) = true := decide_eq_true c8
          clear c8
          have H' := Aside0.mk H
          clear H
          go_wp2
          go_meet
          case rel => exact ⟨_, (true), (by first | rfl | (simp; done) | (simp [*]; done)), H', ⟨by first | omega | exact Nat.le_refl _⟩, by repeat (first | exact Drawn0.refl _ | apply Drawn0.step)⟩
        · rw [if_neg c8] at H
          have c8b0 : decide (a1 < 1) = false := decide_eq_false c8
          clear c8
          by_cases c9 : a1 > 1000000000
          · rw [if_pos c9] at H
            have c9b0 : decide (1000000000 < a1) = true := decide_eq_true c9
            clear c9
            have H' := Aside0.mk H
            clear H
            go_wp2
            go_meet
            case rel => exact ⟨_, (true), (by first | rfl | (simp; done) | (simp [*]; done)), H', ⟨by first | omega | exact Nat.le_refl _⟩, by repeat (first | exact Drawn0.refl _ | apply Drawn0.step)⟩
          · rw [if_neg c9] at H
            have c9b0 : decide (1000000000 < a1) = false := decide_eq_false c9
            clear c9
            by_cases c10 : a2 < 0
            · rw [if_pos c10] at H
              have c10b0 : decide (a2 < 0) = true := decide_eq_true c10
              clear c10
              have H' := Aside0.mk H
              clear H
              go_wp2
              go_meet
              case rel => exact ⟨_, (true), (by first | rfl | (simp; done) | (simp [*]; done)), H', ⟨by first | omega | exact Nat.le_refl _⟩, by repeat (first | exact Drawn0.refl _ | apply Drawn0.step)⟩
            · rw [if_neg c10] at H
              have c10b0 : decide (a2 < 0) = false := decide_eq_false c10
              clear c10
              by_cases c11 : a2 > a3
              · rw [if_pos c11] at H
                have c11b0 : decide (a3 < a2) = true := decide_eq_true c11
                clear c11
                have H' := Aside0.mk H
                clear H
                go_wp2
                go_meet
                case rel => exact ⟨_, (true), (by first | rfl | (simp; done) | (simp [*]; done)), H', ⟨by first | omega | exact Nat.le_refl _⟩, by repeat (first | exact Drawn0.refl _ | apply Drawn0.step)⟩
              · rw [if_neg c11] at H
                have c11b0 : decide (a3 < a2) = false := decide_eq_false c11
                clear c11
                have H' := Aside0.mk H
                clear H
                go_wp2
                go_meet
                case rel => exact ⟨_, (decide (a3 > a1)), (by first | rfl | (simp; done) | (simp [*]; done)), H', ⟨by first | omega | exact Nat.le_refl _⟩, by repeat (first | exact Drawn0.refl _ | apply Drawn0.step)⟩
  case rest =>
    clear HC5
    try clear c1
    try clear p2
    try clear c6
    try clear c6b0
    try clear c7
    try clear c7b0
    try clear c8
    try clear c8b0
    try clear c9
    try clear c9b0
    try clear c10
    try clear c10b0
    try clear c11
    try clear c11b0
    obtain ⟨kq, x37_4, rfl, HA, HJ4, ⟨mc4, rfl⟩⟩ := hcut
    cases kq with
    | zero => exact absurd HA.out (by simp [customsref27_Portion.j0])
    | succ kj4 =>
      have H := HA.out
      clear HA
      simp only [customsref27_Portion.j0] at H
      by_cases c12 : x37_4 = true
      · subst c12
        have H1 : (some (0, 2)) = some (r1, r2) := by rw [if_pos rfl] at H; exact H
        clear H
        have H := H1
        clear H1
        simp only [Option.some.injEq, Prod.mk.injEq] at H
        obtain ⟨rfl, rfl⟩ := H
        go_wp2
        go_ret2
        exact ⟨by first | rfl | (simp; done) | (simp [*]; done), by repeat (first | exact Drawn0.refl _ | apply Drawn0.step)⟩
      · replace c12 := Bool.eq_false_iff.mpr c12
        subst c12
        have H1 : ((customsref21_MulDiv.f kj4 a0 a3 a1).bind fun t119 => ((customsref21_MulDiv.f kj4 a0 a2 a1).bind fun t120 => (some (wrap64 (t119 - t120), 0)))) = some (r1, r2) := by rw [if_neg (show ¬ (false = true) by decide)] at H; exact H
        clear H
        have H := H1
        clear H1
        replace H := Option.bind_eq_some_iff.mp H
        obtain ⟨t119, A130, H⟩ := H
        replace H : ((customsref21_MulDiv.f kj4 a0 a2 a1).bind fun t120 => (some (wrap64 (t119 - t120), 0))) = some (r1, r2) := H
        have A13 := Aside0.mk A130
        clear A130
        replace H := Option.bind_eq_some_iff.mp H
        obtain ⟨t120, A140, H⟩ := H
        replace H : (some (wrap64 (t119 - t120), 0)) = some (r1, r2) := H
        have A14 := Aside0.mk A140
        clear A140
        simp only [Option.some.injEq, Prod.mk.injEq] at H
        obtain ⟨rfl, rfl⟩ := H
        go_wp2_with (first | ((with_reducible refine gate_callee (f := 18) rfl ?_); refine goesL_ (some 41) rfl rfl Try.func18 (by kernel_rfl) rfl #[.int .i64 a0, .int .i64 a3, .int .i64 a1] rfl (by (try simp only [List.map_toArray, List.map_cons, List.map_nil]); first | done | rfl | (simp only [List.length_drop, List.length_take]; rfl)) ?_; (with_reducible refine (customsref21_MulDiv.calls kj4 a0 a3 a1 t119 _ A13.out).mono ?_); rintro e w' ⟨rfl, ⟨nd, rfl⟩⟩; refine ⟨_, rfl, ?_⟩) | ((with_reducible refine gate_callee (f := 18) rfl ?_); refine goesL_ (some 45) rfl rfl Try.func18 (by kernel_rfl) rfl #[.int .i64 a0, .int .i64 a2, .int .i64 a1] rfl (by (try simp only [List.map_toArray, List.map_cons, List.map_nil]); first | done | rfl | (simp only [List.length_drop, List.length_take]; rfl)) ?_; (with_reducible refine (customsref21_MulDiv.calls kj4 a0 a2 a1 t120 _ A14.out).mono ?_); rintro e w' ⟨rfl, ⟨nd, rfl⟩⟩; refine ⟨_, rfl, ?_⟩))
        go_ret2
        exact ⟨by first | rfl | (simp; done) | (simp [*]; done), by repeat (first | exact Drawn0.refl _ | apply Drawn0.step)⟩

end Go.Proofs.Ythbkooonlhldnaa.PX
end
section
namespace Go.Proofs.Ythbkooonlhldnaa.PX
open Go.RowKit Go.Proofs.YthbkooonlhldnaaW.PrintWords Go.Proofs.YthbkooonlhldnaaW.PrintLast Go.Proofs.YthbkooonlhldnaaW.PrintMore
attribute [local go_sem] max2_int min2_int max_two min_two max_three min_three max_four min_four   -- for this text's walks alone
set_option linter.unusedVariables false
set_option linter.unusedSimpArgs false

/-! ### customslaw27_LatentPortion: function 3 -/
mutual
def customslaw27_LatentPortion.j0 : Nat → Int → Int → Int → Int → Int → Bool → Option (Bool)
  | 0, _, _, _, _, _, _ => none
  | k + 1, x0, x1, x2, x3, x4, x5 => (latent_Portion.f k x0 x1 x2 x3).bind fun bt166 => ((customsref27_Portion.f k x0 x1 x2 x3).bind fun bt168 => (if bt166.1 = bt168.1 then (customslaw27_LatentPortion.j1 k x0 x1 x2 x3 x4 x5 bt166.1 bt166.2 (bt166.2 != bt168.2)) else (customslaw27_LatentPortion.j1 k x0 x1 x2 x3 x4 x5 bt166.1 bt166.2 true)))
def customslaw27_LatentPortion.j1 : Nat → Int → Int → Int → Int → Int → Bool → Int → Int → Bool → Option (Bool)
  | 0, _, _, _, _, _, _, _, _, _ => none
  | k + 1, x0, x1, x2, x3, x4, x5, x13, x14, x73 => if x73 = true then (some false) else (if x5 = true then ((customslaw27_awake.f k).bind fun t170 => (some t170)) else ((latent_Portion.f k x0 x1 x3 x4).bind fun bt171 => ((latent_Portion.f k x0 x1 x2 x4).bind fun bt173 => ((latent_Portion.f k x0 x1 0 x1).bind fun bt175 => (if x14 = 0 then (if bt171.2 = 0 then (if bt173.2 = 0 then (if bt175.2 = 0 then (if (wrap64 (x13 + bt171.1)) = bt173.1 then (if bt175.1 = x0 then ((customslaw27_awake.f k).bind fun t177 => (some t177)) else (some false)) else (some false)) else (some false)) else (some false)) else (some false)) else (some false))))))
end
def customslaw27_LatentPortion.f (k : Nat) (a0 : Int) (a1 : Int) (a2 : Int) (a3 : Int) (a4 : Int) (a5 : Bool) : Option (Bool) := if a5 = true then (customslaw27_LatentPortion.j0 k a0 a1 a2 a3 a4 a5) else ((customsmade_Within.f a0 1000000000001).bind fun t161 => ((customsmade_Within.f a1 1000000000).bind fun t162 => ((customsmade_Within.f a2 (wrap64 ((wrap64 (1 + t162)) + 1))).bind fun t163 => ((customsmade_Within.f a3 (wrap64 ((wrap64 ((wrap64 (1 + t162)) - t163)) + 1))).bind fun t164 => ((customsmade_Within.f a4 (wrap64 ((wrap64 ((wrap64 (1 + t162)) - (wrap64 (t163 + t164)))) + 1))).bind fun t165 => (customslaw27_LatentPortion.j0 k t161 (wrap64 (1 + t162)) t163 (wrap64 (t163 + t164)) (wrap64 ((wrap64 (t163 + t164)) + t165)) a5))))))
set_option maxHeartbeats 8000000 in
set_option maxRecDepth 100000 in
theorem customslaw27_LatentPortion.calls (k : Nat) (a0 : Int) (a1 : Int) (a2 : Int) (a3 : Int) (a4 : Int) (a5 : Bool) (r : Bool) (w : World) (h : customslaw27_LatentPortion.f k a0 a1 a2 a3 a4 a5 = some r) :
    Calls Try.prog 3 #[.int .i64 a0, .int .i64 a1, .int .i64 a2, .int .i64 a3, .int .i64 a4, .bool a5] w fun e w' => e = .returned (.bool r) ∧ Below w.heap.size w w' := by
  have HB := Aside0.mk (Below.refl w.heap.size w)
  have H : (if a5 = true then (customslaw27_LatentPortion.j0 k a0 a1 a2 a3 a4 a5) else ((customsmade_Within.f a0 1000000000001).bind fun t161 => ((customsmade_Within.f a1 1000000000).bind fun t162 => ((customsmade_Within.f a2 (wrap64 ((wrap64 (1 + t162)) + 1))).bind fun t163 => ((customsmade_Within.f a3 (wrap64 ((wrap64 ((wrap64 (1 + t162)) - t163)) + 1))).bind fun t164 => ((customsmade_Within.f a4 (wrap64 ((wrap64 ((wrap64 (1 + t162)) - (wrap64 (t163 + t164)))) + 1))).bind fun t165 => (customslaw27_LatentPortion.j0 k t161 (wrap64 (1 + t162)) t163 (wrap64 (t163 + t164)) (wrap64 ((wrap64 (t163 + t164)) + t165)) a5))))))) = some r := h
  clear h
  have HC7 := Aside0.mk H
  clear H
  go_enter Try.func3, Try.ntmps3
  go_upto_if 24 with (fail)
  go_cut [0, 1, 2, 3, 4] (fun v0 v1 v2 v3 v4 wc => ∃ (kq : Nat) (x0_6 : Int) (x1_6 : Int) (x2_6 : Int) (x3_6 : Int) (x4_6 : Int), v0 = .int .i64 x0_6 ∧ v1 = .int .i64 x1_6 ∧ v2 = .int .i64 x2_6 ∧ v3 = .int .i64 x3_6 ∧ v4 = .int .i64 x4_6 ∧ Aside0 (customslaw27_LatentPortion.j0 kq x0_6 x1_6 x2_6 x3_6 x4_6 a5 = some r) ∧ Aside0 (kq ≤ k) ∧ Aside0 (Below w.heap.size w wc))
  case first =>
    have H := HC7.out
    clear HC7
    by_cases c8 : a5 = true
    · subst c8
      have H1 : (customslaw27_LatentPortion.j0 k a0 a1 a2 a3 a4 true) = some r := by rw [if_pos rfl] at H; exact H
      clear H
      have H := H1
      clear H1
      have H' := Aside0.mk H
      clear H
      go_wp2
      go_meet
      case rel => exact ⟨_, (a0), (a1), (a2), (a3), (a4), (by first | rfl | (simp; done) | (simp [*]; done)), (by first | rfl | (simp; done) | (simp [*]; done)), (by first | rfl | (simp; done) | (simp [*]; done)), (by first | rfl | (simp; done) | (simp [*]; done)), (by first | rfl | (simp; done) | (simp [*]; done)), H', ⟨by first | omega | exact Nat.le_refl _⟩, ⟨by repeat (first | (with_reducible first | exact HB.out | apply below_alloc | apply pw_below_drewN | apply below_drew1) | exact HB.out)⟩⟩
    · replace c8 := Bool.eq_false_iff.mpr c8
      subst c8
      have H1 : ((customsmade_Within.f a0 1000000000001).bind fun t161 => ((customsmade_Within.f a1 1000000000).bind fun t162 => ((customsmade_Within.f a2 (wrap64 ((wrap64 (1 + t162)) + 1))).bind fun t163 => ((customsmade_Within.f a3 (wrap64 ((wrap64 ((wrap64 (1 + t162)) - t163)) + 1))).bind fun t164 => ((customsmade_Within.f a4 (wrap64 ((wrap64 ((wrap64 (1 + t162)) - (wrap64 (t163 + t164)))) + 1))).bind fun t165 => (customslaw27_LatentPortion.j0 k t161 (wrap64 (1 + t162)) t163 (wrap64 (t163 + t164)) (wrap64 ((wrap64 (t163 + t164)) + t165)) false)))))) = some r := by rw [if_neg (show ¬ (false = true) by decide)] at H; exact H
      clear H
      have H := H1
      clear H1
      replace H := Option.bind_eq_some_iff.mp H
      obtain ⟨t161, A90, H⟩ := H
      replace H : ((customsmade_Within.f a1 1000000000).bind fun t162 => ((customsmade_Within.f a2 (wrap64 ((wrap64 (1 + t162)) + 1))).bind fun t163 => ((customsmade_Within.f a3 (wrap64 ((wrap64 ((wrap64 (1 + t162)) - t163)) + 1))).bind fun t164 => ((customsmade_Within.f a4 (wrap64 ((wrap64 ((wrap64 (1 + t162)) - (wrap64 (t163 + t164)))) + 1))).bind fun t165 => (customslaw27_LatentPortion.j0 k t161 (wrap64 (1 + t162)) t163 (wrap64 (t163 + t164)) (wrap64 ((wrap64 (t163 + t164)) + t165)) false))))) = some r := H
      have A9 := Aside0.mk A90
      clear A90
      replace H := Option.bind_eq_some_iff.mp H
      obtain ⟨t162, A100, H⟩ := H
      replace H : ((customsmade_Within.f a2 (wrap64 ((wrap64 (1 + t162)) + 1))).bind fun t163 => ((customsmade_Within.f a3 (wrap64 ((wrap64 ((wrap64 (1 + t162)) - t163)) + 1))).bind fun t164 => ((customsmade_Within.f a4 (wrap64 ((wrap64 ((wrap64 (1 + t162)) - (wrap64 (t163 + t164)))) + 1))).bind fun t165 => (customslaw27_LatentPortion.j0 k t161 (wrap64 (1 + t162)) t163 (wrap64 (t163 + t164)) (wrap64 ((wrap64 (t163 + t164)) + t165)) false)))) = some r := H
      have A10 := Aside0.mk A100
      clear A100
      replace H := Option.bind_eq_some_iff.mp H
      obtain ⟨t163, A110, H⟩ := H
      replace H : ((customsmade_Within.f a3 (wrap64 ((wrap64 ((wrap64 (1 + t162)) - t163)) + 1))).bind fun t164 => ((customsmade_Within.f a4 (wrap64 ((wrap64 ((wrap64 (1 + t162)) - (wrap64 (t163 + t164)))) + 1))).bind fun t165 => (customslaw27_LatentPortion.j0 k t161 (wrap64 (1 + t162)) t163 (wrap64 (t163 + t164)) (wrap64 ((wrap64 (t163 + t164)) + t165)) false))) = some r := H
      have A11 := Aside0.mk A110
      clear A110
      replace H := Option.bind_eq_some_iff.mp H
      obtain ⟨t164, A120, H⟩ := H
      replace H : ((customsmade_Within.f a4 (wrap64 ((wrap64 ((wrap64 (1 + t162)) - (wrap64 (t163 + t164)))) + 1))).bind fun t165 => (customslaw27_LatentPortion.j0 k t161 (wrap64 (1 + t162)) t163 (wrap64 (t163 + t164)) (wrap64 ((wrap64 (t163 + t164)) + t165)) false)) = some r := H
      have A12 := Aside0.mk A120
      clear A120
      replace H := Option.bind_eq_some_iff.mp H
      obtain ⟨t165, A130, H⟩ := H
      replace H : (customslaw27_LatentPortion.j0 k t161 (wrap64 (1 + t162)) t163 (wrap64 (t163 + t164)) (wrap64 ((wrap64 (t163 + t164)) + t165)) false) = some r := H
      have A13 := Aside0.mk A130
      clear A130
      have H' := Aside0.mk H
      clear H
      go_wp2_with (first | ((with_reducible refine gate_callee (f := 6) rfl ?_); refine goesL_ (some 26) rfl rfl Try.func6 (by kernel_rfl) rfl #[.int .i64 a0, .int .i64 1000000000001] rfl (by (try simp only [List.map_toArray, List.map_cons, List.map_nil]); first | done | rfl | (simp only [List.length_drop, List.length_take]; rfl)) ?_; (with_reducible refine (customsmade_Within.calls a0 1000000000001 t161 _ A9.out).mono ?_); rintro e w' ⟨rfl, ⟨nd, rfl⟩⟩; refine ⟨_, rfl, ?_⟩) | ((with_reducible refine gate_callee (f := 6) rfl ?_); refine goesL_ (some 28) rfl rfl Try.func6 (by kernel_rfl) rfl #[.int .i64 a1, .int .i64 1000000000] rfl (by (try simp only [List.map_toArray, List.map_cons, List.map_nil]); first | done | rfl | (simp only [List.length_drop, List.length_take]; rfl)) ?_; (with_reducible refine (customsmade_Within.calls a1 1000000000 t162 _ A10.out).mono ?_); rintro e w' ⟨rfl, ⟨nd, rfl⟩⟩; refine ⟨_, rfl, ?_⟩) | ((with_reducible refine gate_callee (f := 6) rfl ?_); refine goesL_ (some 33) rfl rfl Try.func6 (by kernel_rfl) rfl #[.int .i64 a2, .int .i64 (wrap64 ((wrap64 (1 + t162)) + 1))] rfl (by (try simp only [List.map_toArray, List.map_cons, List.map_nil]); first | done | rfl | (simp only [List.length_drop, List.length_take]; rfl)) ?_; (with_reducible refine (customsmade_Within.calls a2 (wrap64 ((wrap64 (1 + t162)) + 1)) t163 _ A11.out).mono ?_); rintro e w' ⟨rfl, ⟨nd, rfl⟩⟩; refine ⟨_, rfl, ?_⟩) | ((with_reducible refine gate_callee (f := 6) rfl ?_); refine goesL_ (some 40) rfl rfl Try.func6 (by kernel_rfl) rfl #[.int .i64 a3, .int .i64 (wrap64 ((wrap64 ((wrap64 (1 + t162)) - t163)) + 1))] rfl (by (try simp only [List.map_toArray, List.map_cons, List.map_nil]); first | done | rfl | (simp only [List.length_drop, List.length_take]; rfl)) ?_; (with_reducible refine (customsmade_Within.calls a3 (wrap64 ((wrap64 ((wrap64 (1 + t162)) - t163)) + 1)) t164 _ A12.out).mono ?_); rintro e w' ⟨rfl, ⟨nd, rfl⟩⟩; refine ⟨_, rfl, ?_⟩) | ((with_reducible refine gate_callee (f := 6) rfl ?_); refine goesL_ (some 48) rfl rfl Try.func6 (by kernel_rfl) rfl #[.int .i64 a4, .int .i64 (wrap64 ((wrap64 ((wrap64 (1 + t162)) - (wrap64 (t163 + t164)))) + 1))] rfl (by (try simp only [List.map_toArray, List.map_cons, List.map_nil]); first | done | rfl | (simp only [List.length_drop, List.length_take]; rfl)) ?_; (with_reducible refine (customsmade_Within.calls a4 (wrap64 ((wrap64 ((wrap64 (1 + t162)) - (wrap64 (t163 + t164)))) + 1)) t165 _ A13.out).mono ?_); rintro e w' ⟨rfl, ⟨nd, rfl⟩⟩; refine ⟨_, rfl, ?_⟩))
      go_meet
      case rel => exact ⟨_, (t161), (wrap64 (1 + t162)), (t163), (wrap64 (t163 + t164)), (wrap64 ((wrap64 (t163 + t164)) + t165)), (by first | rfl | (simp; done) | (simp [*]; done)), (by first | rfl | (simp; done) | (simp [*]; done)), (by first | rfl | (simp; done) | (simp [*]; done)), (by first | rfl | (simp; done) | (simp [*]; done)), (by first | rfl | (simp; done) | (simp [*]; done)), H', ⟨by first | omega | exact Nat.le_refl _⟩, ⟨by repeat (first | (with_reducible first | exact HB.out | apply below_alloc | apply pw_below_drewN | apply below_drew1) | exact HB.out)⟩⟩
  case rest =>
    clear HC7
    try clear p2
    try clear c3
    try clear c6
    try clear p6
    try clear c8
    obtain ⟨kq, x0_6, x1_6, x2_6, x3_6, x4_6, rfl, rfl, rfl, rfl, rfl, HA, HJ6, HB⟩ := hcut
    cases kq with
    | zero => exact absurd HA.out (by simp [customslaw27_LatentPortion.j0])
    | succ kj6 =>
      have H := HA.out
      clear HA
      simp only [customslaw27_LatentPortion.j0] at H
      replace H := Option.bind_eq_some_iff.mp H
      obtain ⟨⟨t166, t167⟩, A140, H⟩ := H
      replace H : ((customsref27_Portion.f kj6 x0_6 x1_6 x2_6 x3_6).bind fun bt168 => (if t166 = bt168.1 then (customslaw27_LatentPortion.j1 kj6 x0_6 x1_6 x2_6 x3_6 x4_6 a5 t166 t167 (t167 != bt168.2)) else (customslaw27_LatentPortion.j1 kj6 x0_6 x1_6 x2_6 x3_6 x4_6 a5 t166 t167 true))) = some r := H
      have A14 := Aside0.mk A140
      clear A140
      replace H := Option.bind_eq_some_iff.mp H
      obtain ⟨⟨t168, t169⟩, A150, H⟩ := H
      replace H : (if t166 = t168 then (customslaw27_LatentPortion.j1 kj6 x0_6 x1_6 x2_6 x3_6 x4_6 a5 t166 t167 (t167 != t169)) else (customslaw27_LatentPortion.j1 kj6 x0_6 x1_6 x2_6 x3_6 x4_6 a5 t166 t167 true)) = some r := H
      have A15 := Aside0.mk A150
      clear A150
      have HC16 := Aside0.mk H
      clear H
      go_upto_region 8 with (first | ((with_reducible refine gate_callee (f := 7) rfl ?_); refine goesL_ (some 55) rfl rfl Try.func7 (by kernel_rfl) rfl #[.int .i64 x0_6, .int .i64 x1_6, .int .i64 x2_6, .int .i64 x3_6] rfl (by (try simp only [List.map_toArray, List.map_cons, List.map_nil]); first | done | rfl | (simp only [List.length_drop, List.length_take]; rfl)) ?_; (with_reducible refine (latent_Portion.calls kj6 x0_6 x1_6 x2_6 x3_6 t166 t167 _ A14.out).mono ?_); rintro e w17 ⟨rfl, hb⟩; refine ⟨_, rfl, ?_⟩; have n0_ := Aside0.mk (below_step (by repeat (first | (with_reducible first | exact HB.out | apply below_alloc | apply pw_below_drewN | apply below_drew1) | exact HB.out)) hb); clear HB; have HB := n0_; clear n0_; (try clear hb); (try clear hb2); (try clear hk); (try clear hi)) | ((with_reducible refine gate_callee (f := 8) rfl ?_); refine goesL_ (some 63) rfl rfl Try.func8 (by kernel_rfl) rfl #[.int .i64 x0_6, .int .i64 x1_6, .int .i64 x2_6, .int .i64 x3_6] rfl (by (try simp only [List.map_toArray, List.map_cons, List.map_nil]); first | done | rfl | (simp only [List.length_drop, List.length_take]; rfl)) ?_; (with_reducible refine (customsref27_Portion.calls kj6 x0_6 x1_6 x2_6 x3_6 t168 t169 _ A15.out).mono ?_); rintro e w' ⟨rfl, ⟨nd, rfl⟩⟩; refine ⟨_, rfl, ?_⟩))
      (try simp only [Act.put, List.setIfInBounds_toArray, List.set_cons_zero, List.set_cons_succ])
      go_cut [73] (fun v73 wc => ∃ (kq : Nat) (x73_15 : Bool), v73 = .bool x73_15 ∧ Aside0 (customslaw27_LatentPortion.j1 kq x0_6 x1_6 x2_6 x3_6 x4_6 a5 t166 t167 x73_15 = some r) ∧ Aside0 (kq ≤ kj6) ∧ Aside0 (Below w.heap.size w wc))
      case first =>
        have H := HC16.out
        clear HC16
        by_cases c18 : t166 = t168
        · rw [if_pos c18] at H
          have c18b0 : (t166 == t168) = true := beq_iff_eq.mpr c18
          have c18b1 : (t166 != t168) = false := bne_eq_false_iff_eq.mpr c18
          clear c18
          (first | rw [c18b0] | (simp only [i64_w, i32_w]; rw [c18b0]) | skip)
          have H' := Aside0.mk H
          clear H
          go_wp2
          go_meet
          case rel => exact ⟨_, ((t167 != t169)), (by first | rfl | (simp; done) | (simp [*]; done)), H', ⟨by have := HJ6.out; first | omega | exact Nat.le_refl _⟩, ⟨by repeat (first | (with_reducible first | exact HB.out | apply below_alloc | apply pw_below_drewN | apply below_drew1) | exact HB.out)⟩⟩
        · rw [if_neg c18] at H
          have c18b0 : (t166 == t168) = false := beq_eq_false_iff_ne.mpr c18
          have c18b1 : (t166 != t168) = true := bne_iff_ne.mpr c18
          (first | rw [c18b0] | (simp only [i64_w, i32_w]; rw [c18b0]) | skip)
          have H' := Aside0.mk H
          clear H
          go_wp2
          go_meet
          case rel => exact ⟨_, (true), (by first | rfl | (simp; done) | (simp [*]; done)), H', ⟨by have := HJ6.out; first | omega | exact Nat.le_refl _⟩, ⟨by repeat (first | (with_reducible first | exact HB.out | apply below_alloc | apply pw_below_drewN | apply below_drew1) | exact HB.out)⟩⟩
      case rest =>
        clear HC16
        try clear c1
        try clear p2
        try clear c3
        try clear c6
        try clear p6
        try clear c7
        try clear c8
        try clear c18
        try clear c18b0
        try clear c18b1
        try clear p2
        try clear p6
        obtain ⟨kq, x73_15, rfl, HA, HJ15, HB⟩ := hcut
        cases kq with
        | zero => exact absurd HA.out (by simp [customslaw27_LatentPortion.j1])
        | succ kj15 =>
          have H := HA.out
          clear HA
          simp only [customslaw27_LatentPortion.j1] at H
          by_cases c19 : x73_15 = true
          · subst c19
            have H1 : (some false) = some r := by rw [if_pos rfl] at H; exact H
            clear H
            have H := H1
            clear H1
            obtain rfl := Option.some.inj H
            go_wp2
            go_ret
            exact ⟨by first | rfl | (simp [errW_none, errW_some] <;> rfl) | (simp [*, errW_none, errW_some] <;> rfl) | (simp (disch := first | assumption | omega) only [Int.tdiv_eq_ediv_of_nonneg, Int.tmod_eq_emod_of_nonneg]; rfl), by repeat (first | (with_reducible first | exact HB.out | apply below_alloc | apply pw_below_drewN | apply below_drew1) | exact HB.out)⟩
          · replace c19 := Bool.eq_false_iff.mpr c19
            subst c19
            have H1 : (if a5 = true then ((customslaw27_awake.f kj15).bind fun t170 => (some t170)) else ((latent_Portion.f kj15 x0_6 x1_6 x3_6 x4_6).bind fun bt171 => ((latent_Portion.f kj15 x0_6 x1_6 x2_6 x4_6).bind fun bt173 => ((latent_Portion.f kj15 x0_6 x1_6 0 x1_6).bind fun bt175 => (if t167 = 0 then (if bt171.2 = 0 then (if bt173.2 = 0 then (if bt175.2 = 0 then (if (wrap64 (t166 + bt171.1)) = bt173.1 then (if bt175.1 = x0_6 then ((customslaw27_awake.f kj15).bind fun t177 => (some t177)) else (some false)) else (some false)) else (some false)) else (some false)) else (some false)) else (some false)))))) = some r := by rw [if_neg (show ¬ (false = true) by decide)] at H; exact H
            clear H
            have H := H1
            clear H1
            by_cases c20 : a5 = true
            · subst c20
              have H1 : ((customslaw27_awake.f kj15).bind fun t170 => (some t170)) = some r := by rw [if_pos rfl] at H; exact H
              clear H
              have H := H1
              clear H1
              replace H := Option.bind_eq_some_iff.mp H
              obtain ⟨t170, A210, H⟩ := H
              replace H : (some t170) = some r := H
              have A21 := Aside0.mk A210
              clear A210
              obtain rfl := Option.some.inj H
              go_wp2_with (first | ((with_reducible refine gate_callee (f := 9) rfl ?_); refine goesL_ (some 75) rfl rfl Try.func9 (by kernel_rfl) rfl #[] rfl (by (try simp only [List.map_toArray, List.map_cons, List.map_nil]); first | done | rfl | (simp only [List.length_drop, List.length_take]; rfl)) ?_; (with_reducible refine (customslaw27_awake.calls kj15  t170 _ A21.out).mono ?_); rintro e w22 ⟨rfl, hb⟩; refine ⟨_, rfl, ?_⟩; have n0_ := Aside0.mk (below_step (by repeat (first | (with_reducible first | exact HB.out | apply below_alloc | apply pw_below_drewN | apply below_drew1) | exact HB.out)) hb); clear HB; have HB := n0_; clear n0_; (try clear hb); (try clear hb2); (try clear hk); (try clear hi)))
              go_ret
              exact ⟨by first | rfl | (simp [errW_none, errW_some] <;> rfl) | (simp [*, errW_none, errW_some] <;> rfl) | (simp (disch := first | assumption | omega) only [Int.tdiv_eq_ediv_of_nonneg, Int.tmod_eq_emod_of_nonneg]; rfl), by repeat (first | (with_reducible first | exact HB.out | apply below_alloc | apply pw_below_drewN | apply below_drew1) | exact HB.out)⟩
            · replace c20 := Bool.eq_false_iff.mpr c20
              subst c20
              have H1 : ((latent_Portion.f kj15 x0_6 x1_6 x3_6 x4_6).bind fun bt171 => ((latent_Portion.f kj15 x0_6 x1_6 x2_6 x4_6).bind fun bt173 => ((latent_Portion.f kj15 x0_6 x1_6 0 x1_6).bind fun bt175 => (if t167 = 0 then (if bt171.2 = 0 then (if bt173.2 = 0 then (if bt175.2 = 0 then (if (wrap64 (t166 + bt171.1)) = bt173.1 then (if bt175.1 = x0_6 then ((customslaw27_awake.f kj15).bind fun t177 => (some t177)) else (some false)) else (some false)) else (some false)) else (some false)) else (some false)) else (some false))))) = some r := by rw [if_neg (show ¬ (false = true) by decide)] at H; exact H
              clear H
              have H := H1
              clear H1
              replace H := Option.bind_eq_some_iff.mp H
              obtain ⟨⟨t171, t172⟩, A230, H⟩ := H
              replace H : ((latent_Portion.f kj15 x0_6 x1_6 x2_6 x4_6).bind fun bt173 => ((latent_Portion.f kj15 x0_6 x1_6 0 x1_6).bind fun bt175 => (if t167 = 0 then (if t172 = 0 then (if bt173.2 = 0 then (if bt175.2 = 0 then (if (wrap64 (t166 + t171)) = bt173.1 then (if bt175.1 = x0_6 then ((customslaw27_awake.f kj15).bind fun t177 => (some t177)) else (some false)) else (some false)) else (some false)) else (some false)) else (some false)) else (some false)))) = some r := H
              have A23 := Aside0.mk A230
              clear A230
              replace H := Option.bind_eq_some_iff.mp H
              obtain ⟨⟨t173, t174⟩, A240, H⟩ := H
              replace H : ((latent_Portion.f kj15 x0_6 x1_6 0 x1_6).bind fun bt175 => (if t167 = 0 then (if t172 = 0 then (if t174 = 0 then (if bt175.2 = 0 then (if (wrap64 (t166 + t171)) = t173 then (if bt175.1 = x0_6 then ((customslaw27_awake.f kj15).bind fun t177 => (some t177)) else (some false)) else (some false)) else (some false)) else (some false)) else (some false)) else (some false))) = some r := H
              have A24 := Aside0.mk A240
              clear A240
              replace H := Option.bind_eq_some_iff.mp H
              obtain ⟨⟨t175, t176⟩, A250, H⟩ := H
              replace H : (if t167 = 0 then (if t172 = 0 then (if t174 = 0 then (if t176 = 0 then (if (wrap64 (t166 + t171)) = t173 then (if t175 = x0_6 then ((customslaw27_awake.f kj15).bind fun t177 => (some t177)) else (some false)) else (some false)) else (some false)) else (some false)) else (some false)) else (some false)) = some r := H
              have A25 := Aside0.mk A250
              clear A250
              by_cases c26 : t167 = 0
              · rw [if_pos c26] at H
                have c26b0 : (t167 == 0) = true := beq_iff_eq.mpr c26
                have c26b1 : (t167 != 0) = false := bne_eq_false_iff_eq.mpr c26
                clear c26
                by_cases c27 : t172 = 0
                · rw [if_pos c27] at H
                  have c27b0 : (t172 == 0) = true := beq_iff_eq.mpr c27
                  have c27b1 : (t172 != 0) = false := bne_eq_false_iff_eq.mpr c27
                  clear c27
                  by_cases c28 : t174 = 0
                  · rw [if_pos c28] at H
                    have c28b0 : (t174 == 0) = true := beq_iff_eq.mpr c28
                    have c28b1 : (t174 != 0) = false := bne_eq_false_iff_eq.mpr c28
                    clear c28
                    by_cases c29 : t176 = 0
                    · rw [if_pos c29] at H
                      have c29b0 : (t176 == 0) = true := beq_iff_eq.mpr c29
                      have c29b1 : (t176 != 0) = false := bne_eq_false_iff_eq.mpr c29
                      clear c29
                      by_cases c30 : (wrap64 (t166 + t171)) = t173
                      · rw [if_pos c30] at H
                        have c30b0 : ((wrap64 (t166 + t171)) == t173) = true := beq_iff_eq.mpr c30
                        have c30b1 : ((wrap64 (t166 + t171)) != t173) = false := bne_eq_false_iff_eq.mpr c30
                        clear c30
                        by_cases c31 : t175 = x0_6
                        · rw [if_pos c31] at H
                          have c31b0 : (t175 == x0_6) = true := beq_iff_eq.mpr c31
                          have c31b1 : (t175 != x0_6) = false := bne_eq_false_iff_eq.mpr c31
                          clear c31
                          replace H := Option.bind_eq_some_iff.mp H
                          obtain ⟨t177, A320, H⟩ := H
                          replace H : (some t177) = some r := H
                          have A32 := Aside0.mk A320
                          clear A320
                          obtain rfl := Option.some.inj H
                          go_wp2_with (first | ((with_reducible refine gate_callee (f := 7) rfl ?_); refine goesL_ (some 81) rfl rfl Try.func7 (by kernel_rfl) rfl #[.int .i64 x0_6, .int .i64 x1_6, .int .i64 x3_6, .int .i64 x4_6] rfl (by (try simp only [List.map_toArray, List.map_cons, List.map_nil]); first | done | rfl | (simp only [List.length_drop, List.length_take]; rfl)) ?_; (with_reducible refine (latent_Portion.calls kj15 x0_6 x1_6 x3_6 x4_6 t171 t172 _ A23.out).mono ?_); rintro e w33 ⟨rfl, hb⟩; refine ⟨_, rfl, ?_⟩; have n0_ := Aside0.mk (below_step (by repeat (first | (with_reducible first | exact HB.out | apply below_alloc | apply pw_below_drewN | apply below_drew1) | exact HB.out)) hb); clear HB; have HB := n0_; clear n0_; (try clear hb); (try clear hb2); (try clear hk); (try clear hi)) | ((with_reducible refine gate_callee (f := 7) rfl ?_); refine goesL_ (some 89) rfl rfl Try.func7 (by kernel_rfl) rfl #[.int .i64 x0_6, .int .i64 x1_6, .int .i64 x2_6, .int .i64 x4_6] rfl (by (try simp only [List.map_toArray, List.map_cons, List.map_nil]); first | done | rfl | (simp only [List.length_drop, List.length_take]; rfl)) ?_; (with_reducible refine (latent_Portion.calls kj15 x0_6 x1_6 x2_6 x4_6 t173 t174 _ A24.out).mono ?_); rintro e w34 ⟨rfl, hb⟩; refine ⟨_, rfl, ?_⟩; have n0_ := Aside0.mk (below_step (by repeat (first | (with_reducible first | exact HB.out | apply below_alloc | apply pw_below_drewN | apply below_drew1) | exact HB.out)) hb); clear HB; have HB := n0_; clear n0_; (try clear hb); (try clear hb2); (try clear hk); (try clear hi)) | ((with_reducible refine gate_callee (f := 7) rfl ?_); refine goesL_ (some 96) rfl rfl Try.func7 (by kernel_rfl) rfl #[.int .i64 x0_6, .int .i64 x1_6, .int .i64 0, .int .i64 x1_6] rfl (by (try simp only [List.map_toArray, List.map_cons, List.map_nil]); first | done | rfl | (simp only [List.length_drop, List.length_take]; rfl)) ?_; (with_reducible refine (latent_Portion.calls kj15 x0_6 x1_6 0 x1_6 t175 t176 _ A25.out).mono ?_); rintro e w35 ⟨rfl, hb⟩; refine ⟨_, rfl, ?_⟩; have n0_ := Aside0.mk (below_step (by repeat (first | (with_reducible first | exact HB.out | apply below_alloc | apply pw_below_drewN | apply below_drew1) | exact HB.out)) hb); clear HB; have HB := n0_; clear n0_; (try clear hb); (try clear hb2); (try clear hk); (try clear hi)) | (go_at_call 9; (with_reducible refine (customslaw27_awake.calls kj15  t177 _ A32.out).mono ?_); rintro e w36 ⟨rfl, hb⟩; have n0_ := Aside0.mk (below_step (by repeat (first | (with_reducible first | exact HB.out | apply below_alloc | apply pw_below_drewN | apply below_drew1) | exact HB.out)) hb); clear HB; have HB := n0_; clear n0_; (try clear hb); (try clear hb2); (try clear hk); (try clear hi)))
                          go_ret
                          exact ⟨by first | rfl | (simp [errW_none, errW_some] <;> rfl) | (simp [*, errW_none, errW_some] <;> rfl) | (simp (disch := first | assumption | omega) only [Int.tdiv_eq_ediv_of_nonneg, Int.tmod_eq_emod_of_nonneg]; rfl), by repeat (first | (with_reducible first | exact HB.out | apply below_alloc | apply pw_below_drewN | apply below_drew1) | exact HB.out)⟩
                        · rw [if_neg c31] at H
                          have c31b0 : (t175 == x0_6) = false := beq_eq_false_iff_ne.mpr c31
                          have c31b1 : (t175 != x0_6) = true := bne_iff_ne.mpr c31
                          obtain rfl := Option.some.inj H
                          go_wp2_with (first | ((with_reducible refine gate_callee (f := 7) rfl ?_); refine goesL_ (some 81) rfl rfl Try.func7 (by kernel_rfl) rfl #[.int .i64 x0_6, .int .i64 x1_6, .int .i64 x3_6, .int .i64 x4_6] rfl (by (try simp only [List.map_toArray, List.map_cons, List.map_nil]); first | done | rfl | (simp only [List.length_drop, List.length_take]; rfl)) ?_; (with_reducible refine (latent_Portion.calls kj15 x0_6 x1_6 x3_6 x4_6 t171 t172 _ A23.out).mono ?_); rintro e w37 ⟨rfl, hb⟩; refine ⟨_, rfl, ?_⟩; have n0_ := Aside0.mk (below_step (by repeat (first | (with_reducible first | exact HB.out | apply below_alloc | apply pw_below_drewN | apply below_drew1) | exact HB.out)) hb); clear HB; have HB := n0_; clear n0_; (try clear hb); (try clear hb2); (try clear hk); (try clear hi)) | ((with_reducible refine gate_callee (f := 7) rfl ?_); refine goesL_ (some 89) rfl rfl Try.func7 (by kernel_rfl) rfl #[.int .i64 x0_6, .int .i64 x1_6, .int .i64 x2_6, .int .i64 x4_6] rfl (by (try simp only [List.map_toArray, List.map_cons, List.map_nil]); first | done | rfl | (simp only [List.length_drop, List.length_take]; rfl)) ?_; (with_reducible refine (latent_Portion.calls kj15 x0_6 x1_6 x2_6 x4_6 t173 t174 _ A24.out).mono ?_); rintro e w38 ⟨rfl, hb⟩; refine ⟨_, rfl, ?_⟩; have n0_ := Aside0.mk (below_step (by repeat (first | (with_reducible first | exact HB.out | apply below_alloc | apply pw_below_drewN | apply below_drew1) | exact HB.out)) hb); clear HB; have HB := n0_; clear n0_; (try clear hb); (try clear hb2); (try clear hk); (try clear hi)) | ((with_reducible refine gate_callee (f := 7) rfl ?_); refine goesL_ (some 96) rfl rfl Try.func7 (by kernel_rfl) rfl #[.int .i64 x0_6, .int .i64 x1_6, .int .i64 0, .int .i64 x1_6] rfl (by (try simp only [List.map_toArray, List.map_cons, List.map_nil]); first | done | rfl | (simp only [List.length_drop, List.length_take]; rfl)) ?_; (with_reducible refine (latent_Portion.calls kj15 x0_6 x1_6 0 x1_6 t175 t176 _ A25.out).mono ?_); rintro e w39 ⟨rfl, hb⟩; refine ⟨_, rfl, ?_⟩; have n0_ := Aside0.mk (below_step (by repeat (first | (with_reducible first | exact HB.out | apply below_alloc | apply pw_below_drewN | apply below_drew1) | exact HB.out)) hb); clear HB; have HB := n0_; clear n0_; (try clear hb); (try clear hb2); (try clear hk); (try clear hi)))
                          go_ret
                          exact ⟨by first | rfl | (simp [errW_none, errW_some] <;> rfl) | (simp [*, errW_none, errW_some] <;> rfl) | (simp (disch := first | assumption | omega) only [Int.tdiv_eq_ediv_of_nonneg, Int.tmod_eq_emod_of_nonneg]; rfl), by repeat (first | (with_reducible first | exact HB.out | apply below_alloc | apply pw_below_drewN | apply below_drew1) | exact HB.out)⟩
                      · rw [if_neg c30] at H
                        have c30b0 : ((wrap64 (t166 + t171)) == t173) = false := beq_eq_false_iff_ne.mpr c30
                        have c30b1 : ((wrap64 (t166 + t171)) != t173) = true := bne_iff_ne.mpr c30
                        obtain rfl := Option.some.inj H
                        go_wp2_with (first | ((with_reducible refine gate_callee (f := 7) rfl ?_); refine goesL_ (some 81) rfl rfl Try.func7 (by kernel_rfl) rfl #[.int .i64 x0_6, .int .i64 x1_6, .int .i64 x3_6, .int .i64 x4_6] rfl (by (try simp only [List.map_toArray, List.map_cons, List.map_nil]); first | done | rfl | (simp only [List.length_drop, List.length_take]; rfl)) ?_; (with_reducible refine (latent_Portion.calls kj15 x0_6 x1_6 x3_6 x4_6 t171 t172 _ A23.out).mono ?_); rintro e w40 ⟨rfl, hb⟩; refine ⟨_, rfl, ?_⟩; have n0_ := Aside0.mk (below_step (by repeat (first | (with_reducible first | exact HB.out | apply below_alloc | apply pw_below_drewN | apply below_drew1) | exact HB.out)) hb); clear HB; have HB := n0_; clear n0_; (try clear hb); (try clear hb2); (try clear hk); (try clear hi)) | ((with_reducible refine gate_callee (f := 7) rfl ?_); refine goesL_ (some 89) rfl rfl Try.func7 (by kernel_rfl) rfl #[.int .i64 x0_6, .int .i64 x1_6, .int .i64 x2_6, .int .i64 x4_6] rfl (by (try simp only [List.map_toArray, List.map_cons, List.map_nil]); first | done | rfl | (simp only [List.length_drop, List.length_take]; rfl)) ?_; (with_reducible refine (latent_Portion.calls kj15 x0_6 x1_6 x2_6 x4_6 t173 t174 _ A24.out).mono ?_); rintro e w41 ⟨rfl, hb⟩; refine ⟨_, rfl, ?_⟩; have n0_ := Aside0.mk (below_step (by repeat (first | (with_reducible first | exact HB.out | apply below_alloc | apply pw_below_drewN | apply below_drew1) | exact HB.out)) hb); clear HB; have HB := n0_; clear n0_; (try clear hb); (try clear hb2); (try clear hk); (try clear hi)) | ((with_reducible refine gate_callee (f := 7) rfl ?_); refine goesL_ (some 96) rfl rfl Try.func7 (by kernel_rfl) rfl #[.int .i64 x0_6, .int .i64 x1_6, .int .i64 0, .int .i64 x1_6] rfl (by (try simp only [List.map_toArray, List.map_cons, List.map_nil]); first | done | rfl | (simp only [List.length_drop, List.length_take]; rfl)) ?_; (with_reducible refine (latent_Portion.calls kj15 x0_6 x1_6 0 x1_6 t175 t176 _ A25.out).mono ?_); rintro e w42 ⟨rfl, hb⟩; refine ⟨_, rfl, ?_⟩; have n0_ := Aside0.mk (below_step (by repeat (first | (with_reducible first | exact HB.out | apply below_alloc | apply pw_below_drewN | apply below_drew1) | exact HB.out)) hb); clear HB; have HB := n0_; clear n0_; (try clear hb); (try clear hb2); (try clear hk); (try clear hi)))
                        go_ret
                        exact ⟨by first | rfl | (simp [errW_none, errW_some] <;> rfl) | (simp [*, errW_none, errW_some] <;> rfl) | (simp (disch := first | assumption | omega) only [Int.tdiv_eq_ediv_of_nonneg, Int.tmod_eq_emod_of_nonneg]; rfl), by repeat (first | (with_reducible first | exact HB.out | apply below_alloc | apply pw_below_drewN | apply below_drew1) | exact HB.out)⟩
                    · rw [if_neg c29] at H
                      have c29b0 : (t176 == 0) = false := beq_eq_false_iff_ne.mpr c29
                      have c29b1 : (t176 != 0) = true := bne_iff_ne.mpr c29
                      obtain rfl := Option.some.inj H
                      go_wp2_with (first | ((with_reducible refine gate_callee (f := 7) rfl ?_); refine goesL_ (some 81) rfl rfl Try.func7 (by kernel_rfl) rfl #[.int .i64 x0_6, .int .i64 x1_6, .int .i64 x3_6, .int .i64 x4_6] rfl (by (try simp only [List.map_toArray, List.map_cons, List.map_nil]); first | done | rfl | (simp only [List.length_drop, List.length_take]; rfl)) ?_; (with_reducible refine (latent_Portion.calls kj15 x0_6 x1_6 x3_6 x4_6 t171 t172 _ A23.out).mono ?_); rintro e w43 ⟨rfl, hb⟩; refine ⟨_, rfl, ?_⟩; have n0_ := Aside0.mk (below_step (by repeat (first | (with_reducible first | exact HB.out | apply below_alloc | apply pw_below_drewN | apply below_drew1) | exact HB.out)) hb); clear HB; have HB := n0_; clear n0_; (try clear hb); (try clear hb2); (try clear hk); (try clear hi)) | ((with_reducible refine gate_callee (f := 7) rfl ?_); refine goesL_ (some 89) rfl rfl Try.func7 (by kernel_rfl) rfl #[.int .i64 x0_6, .int .i64 x1_6, .int .i64 x2_6, .int .i64 x4_6] rfl (by (try simp only [List.map_toArray, List.map_cons, List.map_nil]); first | done | rfl | (simp only [List.length_drop, List.length_take]; rfl)) ?_; (with_reducible refine (latent_Portion.calls kj15 x0_6 x1_6 x2_6 x4_6 t173 t174 _ A24.out).mono ?_); rintro e w44 ⟨rfl, hb⟩; refine ⟨_, rfl, ?_⟩; have n0_ := Aside0.mk (below_step (by repeat (first | (with_reducible first | exact HB.out | apply below_alloc | apply pw_below_drewN | apply below_drew1) | exact HB.out)) hb); clear HB; have HB := n0_; clear n0_; (try clear hb); (try clear hb2); (try clear hk); (try clear hi)) | ((with_reducible refine gate_callee (f := 7) rfl ?_); refine goesL_ (some 96) rfl rfl Try.func7 (by kernel_rfl) rfl #[.int .i64 x0_6, .int .i64 x1_6, .int .i64 0, .int .i64 x1_6] rfl (by (try simp only [List.map_toArray, List.map_cons, List.map_nil]); first | done | rfl | (simp only [List.length_drop, List.length_take]; rfl)) ?_; (with_reducible refine (latent_Portion.calls kj15 x0_6 x1_6 0 x1_6 t175 t176 _ A25.out).mono ?_); rintro e w45 ⟨rfl, hb⟩; refine ⟨_, rfl, ?_⟩; have n0_ := Aside0.mk (below_step (by repeat (first | (with_reducible first | exact HB.out | apply below_alloc | apply pw_below_drewN | apply below_drew1) | exact HB.out)) hb); clear HB; have HB := n0_; clear n0_; (try clear hb); (try clear hb2); (try clear hk); (try clear hi)))
                      go_ret
                      exact ⟨by first | rfl | (simp [errW_none, errW_some] <;> rfl) | (simp [*, errW_none, errW_some] <;> rfl) | (simp (disch := first | assumption | omega) only [Int.tdiv_eq_ediv_of_nonneg, Int.tmod_eq_emod_of_nonneg]; rfl), by repeat (first | (with_reducible first | exact HB.out | apply below_alloc | apply pw_below_drewN | apply below_drew1) | exact HB.out)⟩
                  · rw [if_neg c28] at H
                    have c28b0 : (t174 == 0) = false := beq_eq_false_iff_ne.mpr c28
                    have c28b1 : (t174 != 0) = true := bne_iff_ne.mpr c28
                    obtain rfl := Option.some.inj H
                    go_wp2_with (first | ((with_reducible refine gate_callee (f := 7) rfl ?_); refine goesL_ (some 81) rfl rfl Try.func7 (by kernel_rfl) rfl #[.int .i64 x0_6, .int .i64 x1_6, .int .i64 x3_6, .int .i64 x4_6] rfl (by (try simp only [List.map_toArray, List.map_cons, List.map_nil]); first | done | rfl | (simp only [List.length_drop, List.length_take]; rfl)) ?_; (with_reducible refine (latent_Portion.calls kj15 x0_6 x1_6 x3_6 x4_6 t171 t172 _ A23.out).mono ?_); rintro e w46 ⟨rfl, hb⟩; refine ⟨_, rfl, ?_⟩; have n0_ := Aside0.mk (below_step (by repeat (first | (with_reducible first | exact HB.out | apply below_alloc | apply pw_below_drewN | apply below_drew1) | exact HB.out)) hb); clear HB; have HB := n0_; clear n0_; (try clear hb); (try clear hb2); (try clear hk); (try clear hi)) | ((with_reducible refine gate_callee (f := 7) rfl ?_); refine goesL_ (some 89) rfl rfl Try.func7 (by kernel_rfl) rfl #[.int .i64 x0_6, .int .i64 x1_6, .int .i64 x2_6, .int .i64 x4_6] rfl (by (try simp only [List.map_toArray, List.map_cons, List.map_nil]); first | done | rfl | (simp only [List.length_drop, List.length_take]; rfl)) ?_; (with_reducible refine (latent_Portion.calls kj15 x0_6 x1_6 x2_6 x4_6 t173 t174 _ A24.out).mono ?_); rintro e w47 ⟨rfl, hb⟩; refine ⟨_, rfl, ?_⟩; have n0_ := Aside0.mk (below_step (by repeat (first | (with_reducible first | exact HB.out | apply below_alloc | apply pw_below_drewN | apply below_drew1) | exact HB.out)) hb); clear HB; have HB := n0_; clear n0_; (try clear hb); (try clear hb2); (try clear hk); (try clear hi)) | ((with_reducible refine gate_callee (f := 7) rfl ?_); refine goesL_ (some 96) rfl rfl Try.func7 (by kernel_rfl) rfl #[.int .i64 x0_6, .int .i64 x1_6, .int .i64 0, .int .i64 x1_6] rfl (by (try simp only [List.map_toArray, List.map_cons, List.map_nil]); first | done | rfl | (simp only [List.length_drop, List.length_take]; rfl)) ?_; (with_reducible refine (latent_Portion.calls kj15 x0_6 x1_6 0 x1_6 t175 t176 _ A25.out).mono ?_); rintro e w48 ⟨rfl, hb⟩; refine ⟨_, rfl, ?_⟩; have n0_ := Aside0.mk (below_step (by repeat (first | (with_reducible first | exact HB.out | apply below_alloc | apply pw_below_drewN | apply below_drew1) | exact HB.out)) hb); clear HB; have HB := n0_; clear n0_; (try clear hb); (try clear hb2); (try clear hk); (try clear hi)))
                    go_ret
                    exact ⟨by first | rfl | (simp [errW_none, errW_some] <;> rfl) | (simp [*, errW_none, errW_some] <;> rfl) | (simp (disch := first | assumption | omega) only [Int.tdiv_eq_ediv_of_nonneg, Int.tmod_eq_emod_of_nonneg]; rfl), by repeat (first | (with_reducible first | exact HB.out | apply below_alloc | apply pw_below_drewN | apply below_drew1) | exact HB.out)⟩
                · rw [if_neg c27] at H
                  have c27b0 : (t172 == 0) = false := beq_eq_false_iff_ne.mpr c27
                  have c27b1 : (t172 != 0) = true := bne_iff_ne.mpr c27
                  obtain rfl := Option.some.inj H
                  go_wp2_with (first | ((with_reducible refine gate_callee (f := 7) rfl ?_); refine goesL_ (some 81) rfl rfl Try.func7 (by kernel_rfl) rfl #[.int .i64 x0_6, .int .i64 x1_6, .int .i64 x3_6, .int .i64 x4_6] rfl (by (try simp only [List.map_toArray, List.map_cons, List.map_nil]); first | done | rfl | (simp only [List.length_drop, List.length_take]; rfl)) ?_; (with_reducible refine (latent_Portion.calls kj15 x0_6 x1_6 x3_6 x4_6 t171 t172 _ A23.out).mono ?_); rintro e w49 ⟨rfl, hb⟩; refine ⟨_, rfl, ?_⟩; have n0_ := Aside0.mk (below_step (by repeat (first | (with_reducible first | exact HB.out | apply below_alloc | apply pw_below_drewN | apply below_drew1) | exact HB.out)) hb); clear HB; have HB := n0_; clear n0_; (try clear hb); (try clear hb2); (try clear hk); (try clear hi)) | ((with_reducible refine gate_callee (f := 7) rfl ?_); refine goesL_ (some 89) rfl rfl Try.func7 (by kernel_rfl) rfl #[.int .i64 x0_6, .int .i64 x1_6, .int .i64 x2_6, .int .i64 x4_6] rfl (by (try simp only [List.map_toArray, List.map_cons, List.map_nil]); first | done | rfl | (simp only [List.length_drop, List.length_take]; rfl)) ?_; (with_reducible refine (latent_Portion.calls kj15 x0_6 x1_6 x2_6 x4_6 t173 t174 _ A24.out).mono ?_); rintro e w50 ⟨rfl, hb⟩; refine ⟨_, rfl, ?_⟩; have n0_ := Aside0.mk (below_step (by repeat (first | (with_reducible first | exact HB.out | apply below_alloc | apply pw_below_drewN | apply below_drew1) | exact HB.out)) hb); clear HB; have HB := n0_; clear n0_; (try clear hb); (try clear hb2); (try clear hk); (try clear hi)) | ((with_reducible refine gate_callee (f := 7) rfl ?_); refine goesL_ (some 96) rfl rfl Try.func7 (by kernel_rfl) rfl #[.int .i64 x0_6, .int .i64 x1_6, .int .i64 0, .int .i64 x1_6] rfl (by (try simp only [List.map_toArray, List.map_cons, List.map_nil]); first | done | rfl | (simp only [List.length_drop, List.length_take]; rfl)) ?_; (with_reducible refine (latent_Portion.calls kj15 x0_6 x1_6 0 x1_6 t175 t176 _ A25.out).mono ?_); rintro e w51 ⟨rfl, hb⟩; refine ⟨_, rfl, ?_⟩; have n0_ := Aside0.mk (below_step (by repeat (first | (with_reducible first | exact HB.out | apply below_alloc | apply pw_below_drewN | apply below_drew1) | exact HB.out)) hb); clear HB; have HB := n0_; clear n0_; (try clear hb); (try clear hb2); (try clear hk); (try clear hi)))
                  go_ret
                  exact ⟨by first | rfl | (simp [errW_none, errW_some] <;> rfl) | (simp [*, errW_none, errW_some] <;> rfl) | (simp (disch := first | assumption | omega) only [Int.tdiv_eq_ediv_of_nonneg, Int.tmod_eq_emod_of_nonneg]; rfl), by repeat (first | (with_reducible first | exact HB.out | apply below_alloc | apply pw_below_drewN | apply below_drew1) | exact HB.out)⟩
              · rw [if_neg c26] at H
                have c26b0 : (t167 == 0) = false := beq_eq_false_iff_ne.mpr c26
                have c26b1 : (t167 != 0) = true := bne_iff_ne.mpr c26
                obtain rfl := Option.some.inj H
                go_wp2_with (first | ((with_reducible refine gate_callee (f := 7) rfl ?_); refine goesL_ (some 81) rfl rfl Try.func7 (by kernel_rfl) rfl #[.int .i64 x0_6, .int .i64 x1_6, .int .i64 x3_6, .int .i64 x4_6] rfl (by (try simp only [List.map_toArray, List.map_cons, List.map_nil]); first | done | rfl | (simp only [List.length_drop, List.length_take]; rfl)) ?_; (with_reducible refine (latent_Portion.calls kj15 x0_6 x1_6 x3_6 x4_6 t171 t172 _ A23.out).mono ?_); rintro e w52 ⟨rfl, hb⟩; refine ⟨_, rfl, ?_⟩; have n0_ := Aside0.mk (below_step (by repeat (first | (with_reducible first | exact HB.out | apply below_alloc | apply pw_below_drewN | apply below_drew1) | exact HB.out)) hb); clear HB; have HB := n0_; clear n0_; (try clear hb); (try clear hb2); (try clear hk); (try clear hi)) | ((with_reducible refine gate_callee (f := 7) rfl ?_); refine goesL_ (some 89) rfl rfl Try.func7 (by kernel_rfl) rfl #[.int .i64 x0_6, .int .i64 x1_6, .int .i64 x2_6, .int .i64 x4_6] rfl (by (try simp only [List.map_toArray, List.map_cons, List.map_nil]); first | done | rfl | (simp only [List.length_drop, List.length_take]; rfl)) ?_; (with_reducible refine (latent_Portion.calls kj15 x0_6 x1_6 x2_6 x4_6 t173 t174 _ A24.out).mono ?_); rintro e w53 ⟨rfl, hb⟩; refine ⟨_, rfl, ?_⟩; have n0_ := Aside0.mk (below_step (by repeat (first | (with_reducible first | exact HB.out | apply below_alloc | apply pw_below_drewN | apply below_drew1) | exact HB.out)) hb); clear HB; have HB := n0_; clear n0_; (try clear hb); (try clear hb2); (try clear hk); (try clear hi)) | ((with_reducible refine gate_callee (f := 7) rfl ?_); refine goesL_ (some 96) rfl rfl Try.func7 (by kernel_rfl) rfl #[.int .i64 x0_6, .int .i64 x1_6, .int .i64 0, .int .i64 x1_6] rfl (by (try simp only [List.map_toArray, List.map_cons, List.map_nil]); first | done | rfl | (simp only [List.length_drop, List.length_take]; rfl)) ?_; (with_reducible refine (latent_Portion.calls kj15 x0_6 x1_6 0 x1_6 t175 t176 _ A25.out).mono ?_); rintro e w54 ⟨rfl, hb⟩; refine ⟨_, rfl, ?_⟩; have n0_ := Aside0.mk (below_step (by repeat (first | (with_reducible first | exact HB.out | apply below_alloc | apply pw_below_drewN | apply below_drew1) | exact HB.out)) hb); clear HB; have HB := n0_; clear n0_; (try clear hb); (try clear hb2); (try clear hk); (try clear hi)))
                go_ret
                exact ⟨by first | rfl | (simp [errW_none, errW_some] <;> rfl) | (simp [*, errW_none, errW_some] <;> rfl) | (simp (disch := first | assumption | omega) only [Int.tdiv_eq_ediv_of_nonneg, Int.tmod_eq_emod_of_nonneg]; rfl), by repeat (first | (with_reducible first | exact HB.out | apply below_alloc | apply pw_below_drewN | apply below_drew1) | exact HB.out)⟩

/-- THE ONE PURE STATEMENT of customslaw27_LatentPortion: yours. -/
def customslaw27_LatentPortion.Pure : Prop := ∀ (a0 : Int) (a1 : Int) (a2 : Int) (a3 : Int) (a4 : Int) (a5 : Bool), (Lit.int .i64 a0).wf = true → (Lit.int .i64 a1).wf = true → (Lit.int .i64 a2).wf = true → (Lit.int .i64 a3).wf = true → (Lit.int .i64 a4).wf = true → ∃ k, customslaw27_LatentPortion.f k a0 a1 a2 a3 a4 a5 = some true
theorem customslaw27_LatentPortion.walk (P : customslaw27_LatentPortion.Pure) (a0 : Int) (a1 : Int) (a2 : Int) (a3 : Int) (a4 : Int) (a5 : Bool) (w : World) (w0 : (Lit.int .i64 a0).wf = true) (w1 : (Lit.int .i64 a1).wf = true) (w2 : (Lit.int .i64 a2).wf = true) (w3 : (Lit.int .i64 a3).wf = true) (w4 : (Lit.int .i64 a4).wf = true) :
    Calls Try.prog 3 #[.int .i64 a0, .int .i64 a1, .int .i64 a2, .int .i64 a3, .int .i64 a4, .bool a5] w fun e w' => e = .returned (.bool true) ∧ Below w.heap.size w w' := by
  obtain ⟨k, h⟩ := P a0 a1 a2 a3 a4 a5 w0 w1 w2 w3 w4
  refine (customslaw27_LatentPortion.calls k a0 a1 a2 a3 a4 a5 true w h).mono ?_
  rintro e w' ⟨rfl, hd⟩
  exact ⟨rfl, hd⟩

end Go.Proofs.Ythbkooonlhldnaa.PX
end
section
namespace Go.Proofs.Ythbkooonlhldnaa.PX
open Go.RowKit Go.Proofs.YthbkooonlhldnaaW.PrintWords Go.Proofs.YthbkooonlhldnaaW.PrintLast Go.Proofs.YthbkooonlhldnaaW.PrintMore
set_option linter.unusedVariables false
set_option linter.unusedSimpArgs false

theorem Ev.up {α : Type} {g : Nat → Option α} {r : α} (h : Ev (fun k => g (k + 1)) r) : Ev g r := Ev.step (fun _ => rfl) h
theorem Ev.cst {α : Type} {x : Option α} {r : α} (h : x = some r) : Ev (fun _ => x) r := ⟨0, fun _ _ => h⟩
theorem Ev.as {α : Type} {g : Nat → Option α} {r s : α} (h : Ev g r) (e : r = s) : Ev g s := e ▸ h
def U64 (x : Int) : Prop := 0 ≤ x ∧ x < 18446744073709551616
def I64 (x : Int) : Prop := -9223372036854775808 ≤ x ∧ x < 9223372036854775808
theorem i64_of_wf {a : Int} (h : (Lit.int .i64 a).wf = true) : I64 a := by
  simp [Lit.wf, IntKind.min, IntKind.max, IntKind.bits, IntKind.signed] at h; unfold I64; omega
theorem w64_in {x : Int} (h0 : 0 ≤ x) (h1 : x < 18446744073709551616) : IntKind.u64.wrap x = x := by
  rw [IntKind.wrap_u64]; omega
theorem wrap64_of {x : Int} (h0 : -9223372036854775808 ≤ x) (h1 : x < 9223372036854775808) : wrap64 x = x := by
  unfold wrap64; omega
theorem and32 {x : Int} (h0 : 0 ≤ x) (h1 : x < 18446744073709551616) : Go.bits .and .u64 x 4294967295 = x % 4294967296 := by
  have := bits_mask .u64 64 (by decide) (fun n a b => w64_in a (by simpa using b)) 32 (by decide) x h0 (by simpa using h1)
  simpa using this
theorem or_join {x y : Int} (s : Nat) (hx0 : 0 ≤ x) (hx : x % 2 ^ s = 0) (hx1 : x < 18446744073709551616) (hy0 : 0 ≤ y) (hy : y < 2 ^ s) (hy1 : y < 18446744073709551616) : Go.bits .or .u64 x y = x + y :=
  bits_join .u64 64 (by decide) (fun n a b => w64_in a (by simpa using b)) s x y hx0 hx (by simpa using hx1) hy0 hy (by simpa using hy1)

/- the number of bits -/
def lenTab : ByteArray := ⟨#[0, 1, 2, 2, 3, 3, 3, 3, 4, 4, 4, 4, 4, 4, 4, 4, 5, 5, 5, 5, 5, 5, 5, 5, 5, 5, 5, 5, 5, 5, 5, 5, 6, 6, 6, 6, 6, 6, 6, 6, 6, 6, 6, 6, 6, 6, 6, 6, 6, 6, 6, 6, 6, 6, 6, 6, 6, 6, 6, 6, 6, 6, 6, 6, 7, 7, 7, 7, 7, 7, 7, 7, 7, 7, 7, 7, 7, 7, 7, 7, 7, 7, 7, 7, 7, 7, 7, 7, 7, 7, 7, 7, 7, 7, 7, 7, 7, 7, 7, 7, 7, 7, 7, 7, 7, 7, 7, 7, 7, 7, 7, 7, 7, 7, 7, 7, 7, 7, 7, 7, 7, 7, 7, 7, 7, 7, 7, 7, 8, 8, 8, 8, 8, 8, 8, 8, 8, 8, 8, 8, 8, 8, 8, 8, 8, 8, 8, 8, 8, 8, 8, 8, 8, 8, 8, 8, 8, 8, 8, 8, 8, 8, 8, 8, 8, 8, 8, 8, 8, 8, 8, 8, 8, 8, 8, 8, 8, 8, 8, 8, 8, 8, 8, 8, 8, 8, 8, 8, 8, 8, 8, 8, 8, 8, 8, 8, 8, 8, 8, 8, 8, 8, 8, 8, 8, 8, 8, 8, 8, 8, 8, 8, 8, 8, 8, 8, 8, 8, 8, 8, 8, 8, 8, 8, 8, 8, 8, 8, 8, 8, 8, 8, 8, 8, 8, 8, 8, 8, 8, 8, 8, 8, 8, 8, 8, 8, 8, 8, 8, 8, 8, 8, 8, 8, 8, 8]⟩
def lenOk (x : Int) (n : Nat) : Bool := decide (n ≤ 8) && decide (x < 2 ^ n) && (decide (x = 0) || decide ((2 : Int) ^ n ≤ 2 * x))
theorem lenTab_all : (List.range 256).all (fun i => lenOk (i : Int) (bt lenTab i).toNat && decide (0 ≤ bt lenTab i)) = true := by decide +kernel
theorem lenTab_at (y : Int) (h0 : 0 ≤ y) (h1 : y < 256) : ∃ n : Nat, bt lenTab y = n ∧ lenOk y n = true := by
  obtain ⟨i, rfl⟩ := Int.eq_ofNat_of_zero_le h0
  have h := List.all_eq_true.mp lenTab_all i (List.mem_range.mpr (by omega))
  simp only [Bool.and_eq_true, decide_eq_true_eq] at h
  exact ⟨(bt lenTab i).toNat, by omega, h.1⟩
def bitsOf (x : Int) (n : Nat) : Prop := n ≤ 64 ∧ x < 2 ^ n ∧ (x = 0 ∨ (2 : Int) ^ n ≤ 2 * x)
theorem len_scaled {x y : Int} (s m : Nat) (c : Int) (hc : c = 2 ^ m) (hs : s + m ≤ 64) (hx : 0 ≤ x) (hy : x / c = y) (hy0 : 1 ≤ y) {n : Nat} (h : bitsOf y n) (hn : n + m ≤ 64) : bitsOf x (n + m) := by
  obtain ⟨h1, h2, h3⟩ := h
  have hcp : 0 < c := by rw [hc]; exact Int.pow_pos (by decide)
  refine ⟨hn, ?_, .inr ?_⟩
  · rw [Int.pow_add, ← hc]
    have : x < (y + 1) * c := by rw [← hy]; exact Int.lt_ediv_add_one_mul_self _ hcp
    have : (y + 1) * c ≤ 2 ^ n * c := Int.mul_le_mul_of_nonneg_right (by omega) (by omega)
    omega
  · rw [Int.pow_add, ← hc]
    have h4 : (2 : Int) ^ n ≤ 2 * y := by rcases h3 with h | h <;> omega
    have : (2 : Int) ^ n * c ≤ 2 * y * c := Int.mul_le_mul_of_nonneg_right h4 (by omega)
    have : y * c ≤ x := by rw [← hy]; exact Int.ediv_mul_le _ (by omega)
    rw [Int.mul_assoc] at *
    omega
theorem lenOk_bits {y : Int} {n : Nat} (h : lenOk y n = true) : n ≤ 8 ∧ bitsOf y n := by
  unfold lenOk at h
  simp only [Bool.and_eq_true, Bool.or_eq_true, decide_eq_true_eq] at h
  exact ⟨h.1.1, by omega, h.1.2, h.2⟩
set_option maxRecDepth 100000 in
theorem j0_eq (k : Nat) (x0 x2 : Int) : bits_Len64.j0 (k + 1) x0 x2 = if x0 ≥ 65536 then (if (x0 / 65536) ≥ 256 then (if 0 ≤ (((x0 / 65536) / 256) % 256) then (if (((x0 / 65536) / 256) % 256) < 256 then (some (wrap64 ((wrap64 ((wrap64 (x2 + 16)) + 8)) + (wrap64 (bt lenTab (((x0 / 65536) / 256) % 256)))))) else (none)) else (none)) else (if 0 ≤ ((x0 / 65536) % 256) then (if ((x0 / 65536) % 256) < 256 then (some (wrap64 ((wrap64 (x2 + 16)) + (wrap64 (bt lenTab ((x0 / 65536) % 256)))))) else (none)) else (none))) else (if x0 ≥ 256 then (if 0 ≤ ((x0 / 256) % 256) then (if ((x0 / 256) % 256) < 256 then (some (wrap64 ((wrap64 (x2 + 8)) + (wrap64 (bt lenTab ((x0 / 256) % 256)))))) else (none)) else (none)) else (if 0 ≤ ((x0) % 256) then (if ((x0) % 256) < 256 then (some (wrap64 (x2 + (wrap64 (bt lenTab ((x0) % 256)))))) else (none)) else (none))) := rfl
theorem len_j0 (y z : Int) (h0 : 0 ≤ y) (h1 : y < 4294967296) (hz0 : 0 ≤ z) (hz : z ≤ 1000) :
    ∃ n : Nat, n ≤ 32 ∧ bitsOf y n ∧ ∀ k, bits_Len64.j0 (k + 1) y z = some (z + n) := by
  by_cases c1 : y ≥ 65536
  · by_cases c2 : y / 65536 ≥ 256
    · obtain ⟨n, hn, ho⟩ := lenTab_at ((y / 65536) / 256 % 256) (by omega) (by omega)
      obtain ⟨h8, hb⟩ := lenOk_bits ho
      refine ⟨n + 24, by omega, len_scaled 24 24 16777216 (by decide) (by omega) h0 (y := y / 65536 / 256 % 256) (by omega) (by omega) hb (by omega), fun k => ?_⟩
      rw [j0_eq, if_pos c1, if_pos c2, if_pos (by omega), if_pos (by omega), hn]
      exact congrArg some (by unfold wrap64; omega)
    · obtain ⟨n, hn, ho⟩ := lenTab_at ((y / 65536) % 256) (by omega) (by omega)
      obtain ⟨h8, hb⟩ := lenOk_bits ho
      refine ⟨n + 16, by omega, len_scaled 16 16 65536 (by decide) (by omega) h0 (y := y / 65536 % 256) (by omega) (by omega) hb (by omega), fun k => ?_⟩
      rw [j0_eq, if_pos c1, if_neg c2, if_pos (by omega), if_pos (by omega), hn]
      exact congrArg some (by unfold wrap64; omega)
  · by_cases c2 : y ≥ 256
    · obtain ⟨n, hn, ho⟩ := lenTab_at ((y / 256) % 256) (by omega) (by omega)
      obtain ⟨h8, hb⟩ := lenOk_bits ho
      refine ⟨n + 8, by omega, len_scaled 8 8 256 (by decide) (by omega) h0 (y := y / 256 % 256) (by omega) (by omega) hb (by omega), fun k => ?_⟩
      rw [j0_eq, if_neg c1, if_pos c2, if_pos (by omega), if_pos (by omega), hn]
      exact congrArg some (by unfold wrap64; omega)
    · obtain ⟨n, hn, ho⟩ := lenTab_at (y % 256) (by omega) (by omega)
      obtain ⟨h8, hb⟩ := lenOk_bits ho
      have e : y % 256 = y := by omega
      rw [e] at hb
      refine ⟨n, by omega, hb, fun k => ?_⟩
      rw [j0_eq, if_neg c1, if_neg c2, if_pos (by omega), if_pos (by omega), hn]
      exact congrArg some (by unfold wrap64; omega)
theorem len64 (x : Int) (h : U64 x) : ∃ n : Nat, bitsOf x n ∧ ∀ k, bits_Len64.f (k + 1) x = some (n : Int) := by
  obtain ⟨h0, h1⟩ := h
  by_cases c : x ≥ 4294967296
  · obtain ⟨n, hn, hb, hf⟩ := len_j0 (x / 4294967296) 32 (by omega) (by omega) (by omega) (by omega)
    refine ⟨n + 32, len_scaled 32 32 4294967296 (by decide) (by omega) h0 rfl (by omega) hb (by omega), fun k => ?_⟩
    unfold bits_Len64.f
    rw [if_pos c, hf k]; congr 1; omega
  · obtain ⟨n, hn, hb, hf⟩ := len_j0 x 0 h0 (by omega) (by omega) (by omega)
    refine ⟨n, hb, fun k => ?_⟩
    unfold bits_Len64.f
    rw [if_neg c, hf k]; congr 1; omega
/- how far to shift y so that its highest bit is set -/
theorem lead64 (y : Int) (h0 : 0 < y) (h1 : y < 18446744073709551616) : ∃ s : Nat, s ≤ 63 ∧ 9223372036854775808 ≤ y * 2 ^ s ∧ y * 2 ^ s < 18446744073709551616 ∧ ∀ k, bits_LeadingZeros64.f (k + 1) y = some (s : Int) := by
  obtain ⟨n, ⟨hn, hlt, hge⟩, hf⟩ := len64 y ⟨by omega, h1⟩
  have hn0 : n ≠ 0 := by rintro rfl; simp at hlt; omega
  have hge' : (2 : Int) ^ n ≤ 2 * y := by rcases hge with h | h <;> omega
  have e : (2 : Int) ^ n * 2 ^ (64 - n) = 18446744073709551616 := by rw [← Int.pow_add, show n + (64 - n) = 64 from by omega]; decide
  have hp : 0 < (2 : Int) ^ (64 - n) := Int.pow_pos (by decide)
  refine ⟨64 - n, by omega, ?_, ?_, fun k => ?_⟩
  · have := Int.mul_le_mul_of_nonneg_right hge' (show 0 ≤ (2 : Int) ^ (64 - n) by omega)
    rw [Int.mul_assoc] at this; omega
  · have := Int.mul_lt_mul_of_pos_right hlt hp
    omega
  · unfold bits_LeadingZeros64.f
    rw [hf k]; simp only [Option.bind_some]; rw [wrap64_of (by omega) (by omega)]; congr 1; omega
end Go.Proofs.Ythbkooonlhldnaa.PX
end
section
namespace Go.Proofs.Ythbkooonlhldnaa.PX
open Go.RowKit Go.Proofs.YthbkooonlhldnaaW.PrintWords Go.Proofs.YthbkooonlhldnaaW.PrintLast Go.Proofs.YthbkooonlhldnaaW.PrintMore
set_option linter.unusedVariables false
set_option linter.unusedSimpArgs false

/- one digit of the quotient -/
def KIn (y1 y0 u e q r : Int) : Prop := q * y1 + r = u ∧ 0 ≤ r ∧ r < 4294967296 ∧ (u * 4294967296 + e) / (y1 * 4294967296 + y0) ≤ q ∧ q ≤ 4294967297
structure KFix (y1 y0 u e : Int) : Prop where
  y1l : 2147483648 ≤ y1
  y1h : y1 < 4294967296
  y0l : 0 ≤ y0
  y0h : y0 < 4294967296
  ul : 0 ≤ u
  uh : u < y1 * 4294967296 + y0
  el : 0 ≤ e
  eh : e < 4294967296
theorem k_split (q y1 y0 : Int) : q * (y1 * 4294967296 + y0) = q * y1 * 4294967296 + q * y0 := by
  rw [Int.mul_add, Int.mul_assoc]
theorem k_stop {y1 y0 u e q r : Int} (F : KFix y1 y0 u e) (h : KIn y1 y0 u e q r) (ht : q * y0 ≤ 4294967296 * r + e) : q = (u * 4294967296 + e) / (y1 * 4294967296 + y0) := by
  obtain ⟨h1, h2, h3, h4, h5⟩ := h
  have : q * (y1 * 4294967296 + y0) ≤ u * 4294967296 + e := by rw [k_split]; omega
  have := Int.le_ediv_of_mul_le (by have := F.y1l; have := F.y0l; omega) this
  omega
theorem k_go {y1 y0 u e q r : Int} (F : KFix y1 y0 u e) (h : KIn y1 y0 u e q r) (ht : 4294967296 ≤ q ∨ 4294967296 * r + e < q * y0) : (u * 4294967296 + e) / (y1 * 4294967296 + y0) ≤ q - 1 := by
  obtain ⟨h1, h2, h3, h4, h5⟩ := h
  have hY : 0 < y1 * 4294967296 + y0 := by have := F.y1l; have := F.y0l; omega
  rcases ht with ht | ht
  · have : u * 4294967296 + e < 4294967296 * (y1 * 4294967296 + y0) := by have := F.uh; have := F.eh; omega
    have := Int.ediv_lt_of_lt_mul hY this
    omega
  · have : u * 4294967296 + e < q * (y1 * 4294967296 + y0) := by rw [k_split]; omega
    have := Int.ediv_lt_of_lt_mul hY this
    omega
theorem k_break {y1 y0 u e q r : Int} (F : KFix y1 y0 u e) (h : KIn y1 y0 u e q r) (hq : (u * 4294967296 + e) / (y1 * 4294967296 + y0) ≤ q - 1) (hr : 4294967296 ≤ r + y1) : q - 1 = (u * 4294967296 + e) / (y1 * 4294967296 + y0) := by
  obtain ⟨h1, h2, h3, h4, h5⟩ := h
  have hY : 0 < y1 * 4294967296 + y0 := by have := F.y1l; have := F.y0l; omega
  have e1 : (q - 1) * y1 = q * y1 - y1 := by rw [Int.sub_mul, Int.one_mul]
  have e2 : (q - 1) * y0 ≤ 4294967296 * 4294967295 := by
    by_cases hn : 0 ≤ q - 1
    · exact Int.mul_le_mul (by omega) (by have := F.y0h; omega) F.y0l (by omega)
    · have : (q - 1) * y0 ≤ 0 := Int.mul_nonpos_of_nonpos_of_nonneg (by omega) F.y0l
      omega
  have : (q - 1) * (y1 * 4294967296 + y0) ≤ u * 4294967296 + e := by rw [k_split, e1]; have := F.el; omega
  have := Int.le_ediv_of_mul_le hY this
  omega
theorem k_next {y1 y0 u e q r : Int} (F : KFix y1 y0 u e) (h : KIn y1 y0 u e q r) (hq : (u * 4294967296 + e) / (y1 * 4294967296 + y0) ≤ q - 1) (hr : r + y1 < 4294967296) : KIn y1 y0 u e (q - 1) (r + y1) := by
  obtain ⟨h1, h2, h3, h4, h5⟩ := h
  have e1 : (q - 1) * y1 = q * y1 - y1 := by rw [Int.sub_mul, Int.one_mul]
  exact ⟨by rw [e1]; omega, by have := F.y1l; omega, hr, hq, by omega⟩
theorem k_pos {y1 y0 u e : Int} (F : KFix y1 y0 u e) : 0 ≤ (u * 4294967296 + e) / (y1 * 4294967296 + y0) :=
  Int.ediv_nonneg (by have := F.ul; have := F.el; omega) (by have := F.y1l; have := F.y0l; omega)
theorem k_lt {y1 y0 u e : Int} (F : KFix y1 y0 u e) : (u * 4294967296 + e) / (y1 * 4294967296 + y0) < 4294967296 :=
  Int.ediv_lt_of_lt_mul (by have := F.y1l; have := F.y0l; omega) (by have := F.uh; have := F.eh; omega)
/- the guess to begin with -/
theorem k_first {y1 y0 u e : Int} (F : KFix y1 y0 u e) : KIn y1 y0 u e (u / y1) (u % y1) := by
  have hy := F.y1l
  have h0 := Int.emod_nonneg u (show y1 ≠ 0 by omega)
  have h1 := Int.emod_lt_of_pos u (show 0 < y1 by omega)
  have h2 := Int.ediv_mul_add_emod u y1
  refine ⟨h2, h0, by have := F.y1h; omega, ?_, ?_⟩
  · have hY : 0 < y1 * 4294967296 + y0 := by have := F.y0l; omega
    refine Int.lt_add_one_iff.mp (Int.ediv_lt_of_lt_mul hY ?_)
    have e1 : (u / y1 + 1) * (y1 * 4294967296 + y0) = (u / y1 * y1 + y1) * 4294967296 + (u / y1 + 1) * y0 := by
      rw [k_split, Int.add_mul (u / y1) 1 y1, Int.one_mul]
    have : 0 ≤ (u / y1 + 1) * y0 := Int.mul_nonneg (by have := Int.ediv_nonneg F.ul (show 0 ≤ y1 by omega); omega) F.y0l
    rw [e1]; have := F.eh; omega
  · refine Int.lt_add_one_iff.mp (Int.ediv_lt_of_lt_mul (by omega) ?_)
    have := F.uh; have := F.y0h
    omega
/- what the two tests of the loop ask -/
def kTest (y0 e q r : Int) : Bool := if q ≥ 4294967296 then true else decide ((IntKind.u64.wrap (q * y0)) > (IntKind.u64.wrap ((IntKind.u64.wrap (4294967296 * r)) + e)))
theorem kTest_is {y1 y0 u e q r : Int} (F : KFix y1 y0 u e) (h : KIn y1 y0 u e q r) : kTest y0 e q r = decide (4294967296 ≤ q ∨ 4294967296 * r + e < q * y0) := by
  unfold kTest
  obtain ⟨h1, h2, h3, h4, h5⟩ := h
  have hp := k_pos F
  by_cases c : q ≥ 4294967296
  · rw [if_pos c]; simp; omega
  · rw [if_neg c]
    have m0 : 0 ≤ q * y0 := Int.mul_nonneg (by omega) F.y0l
    have m1 : q * y0 ≤ 4294967295 * 4294967295 := Int.mul_le_mul (by omega) (by have := F.y0h; omega) F.y0l (by omega)
    rw [w64_in m0 (by omega), w64_in (x := 4294967296 * r) (by omega) (by omega), w64_in (by have := F.el; omega) (by have := F.eh; omega)]
    simp only [decide_eq_decide]; omega
theorem div64_l0 {Y s y1 y0 u e un0 : Int} {res : Int × Int} (F : KFix y1 y0 u e)
    (H : Ev (fun k => bits_Div64.j2 k Y s y1 y0 u e un0 ((u * 4294967296 + e) / (y1 * 4294967296 + y0))) res) (n : Nat) :
    ∀ q r, KIn y1 y0 u e q r → q - (u * 4294967296 + e) / (y1 * 4294967296 + y0) = n → Ev (fun k => bits_Div64.l0 k Y s y1 y0 u e un0 q r) res := by
  induction n with
  | zero =>
    intro q r hi hn
    have hs : kTest y0 e q r = false := by
      rw [kTest_is F hi, decide_eq_false_iff_not]; intro hc; have := k_go F hi hc; omega
    refine Ev.step (f := fun k => bits_Div64.j1 k Y s y1 y0 u e un0 q r false) (fun k => ?_) (Ev.step (f := fun k => bits_Div64.j2 k Y s y1 y0 u e un0 q) (fun k => ?_) ?_)
    · rw [← hs]; simp only [bits_Div64.l0, kTest]; split <;> rfl
    · simp only [bits_Div64.j1]; rfl
    · rw [show q = (u * 4294967296 + e) / (y1 * 4294967296 + y0) by omega]; exact H
  | succ n ih =>
    intro q r hi hn
    obtain ⟨h1, h2, h3, h4, h5⟩ := id hi
    have hp := k_pos F
    have hg : 4294967296 ≤ q ∨ 4294967296 * r + e < q * y0 := by
      by_cases c : 4294967296 ≤ q ∨ 4294967296 * r + e < q * y0
      · exact c
      · have := k_stop F hi (by omega); omega
    have hs : kTest y0 e q r = true := by rw [kTest_is F hi, decide_eq_true hg]
    have hq := k_go F hi hg
    have w1 : IntKind.u64.wrap (q - 1) = q - 1 := w64_in (by omega) (by omega)
    have w2 : IntKind.u64.wrap (r + y1) = r + y1 := w64_in (by have := F.y1l; omega) (by have := F.y1h; omega)
    refine Ev.step (f := fun k => bits_Div64.j1 k Y s y1 y0 u e un0 q r true) (fun k => ?_) ?_
    · rw [← hs]; simp only [bits_Div64.l0, kTest]; split <;> rfl
    · by_cases c : r + y1 ≥ 4294967296
      · refine Ev.step (f := fun k => bits_Div64.j2 k Y s y1 y0 u e un0 (q - 1)) (fun k => ?_) ?_
        · simp only [bits_Div64.j1]; rw [w2, if_pos trivial, if_pos c, w1]
        · rw [k_break F hi hq c]; exact H
      · refine Ev.step (f := fun k => bits_Div64.l0 k Y s y1 y0 u e un0 (q - 1) (r + y1)) (fun k => ?_) ?_
        · simp only [bits_Div64.j1]; rw [w2, if_pos trivial, if_neg c, w1]
        · exact ih _ _ (k_next F hi hq (by omega)) (by omega)
theorem div64_l1 {Y s y1 y0 u e q1 : Int} (hs0 : 0 ≤ s) (F : KFix y1 y0 u e) (n : Nat) :
    ∀ q r, KIn y1 y0 u e q r → q - (u * 4294967296 + e) / (y1 * 4294967296 + y0) = n → Ev (fun k => bits_Div64.l1 k Y s y1 y0 e q1 r u q)
      (IntKind.u64.wrap ((IntKind.u64.wrap (q1 * 4294967296)) + ((u * 4294967296 + e) / (y1 * 4294967296 + y0))), shr .u64 (IntKind.u64.wrap ((IntKind.u64.wrap ((IntKind.u64.wrap (u * 4294967296)) + e)) - (IntKind.u64.wrap (((u * 4294967296 + e) / (y1 * 4294967296 + y0)) * Y)))) s) := by
  induction n with
  | zero =>
    intro q r hi hn
    have hs : kTest y0 e q r = false := by
      rw [kTest_is F hi, decide_eq_false_iff_not]; intro hc; have := k_go F hi hc; omega
    refine Ev.step (f := fun k => bits_Div64.j4 k Y s y1 y0 e q1 r u q false) (fun k => ?_) (Ev.step (fun k => ?_) (Ev.now _))
    · rw [← hs]; simp only [bits_Div64.l1, kTest]; split <;> rfl
    · rw [← show q = (u * 4294967296 + e) / (y1 * 4294967296 + y0) by omega]
      simp only [bits_Div64.j4]; rw [if_neg (by decide), if_pos hs0]
  | succ n ih =>
    intro q r hi hn
    obtain ⟨h1, h2, h3, h4, h5⟩ := id hi
    have hp := k_pos F
    have hg : 4294967296 ≤ q ∨ 4294967296 * r + e < q * y0 := by
      by_cases c : 4294967296 ≤ q ∨ 4294967296 * r + e < q * y0
      · exact c
      · have := k_stop F hi (by omega); omega
    have hs : kTest y0 e q r = true := by rw [kTest_is F hi, decide_eq_true hg]
    have hq := k_go F hi hg
    have w1 : IntKind.u64.wrap (q - 1) = q - 1 := w64_in (by omega) (by omega)
    have w2 : IntKind.u64.wrap (r + y1) = r + y1 := w64_in (by have := F.y1l; omega) (by have := F.y1h; omega)
    refine Ev.step (f := fun k => bits_Div64.j4 k Y s y1 y0 e q1 r u q true) (fun k => ?_) ?_
    · rw [← hs]; simp only [bits_Div64.l1, kTest]; split <;> rfl
    · by_cases c : r + y1 ≥ 4294967296
      · refine Ev.step (fun k => ?_) (Ev.now _)
        rw [← k_break F hi hq c]
        simp only [bits_Div64.j4]; rw [w2, if_pos trivial, if_pos c, if_pos hs0, w1]
      · refine Ev.step (f := fun k => bits_Div64.l1 k Y s y1 y0 e q1 (r + y1) u (q - 1)) (fun k => ?_) ?_
        · simp only [bits_Div64.j4]; rw [w2, if_pos trivial, if_neg c, w1]
        · exact ih _ _ (k_next F hi hq (by omega)) (by omega)
theorem div_scaled {T y p q r : Int} (hy : 0 < y) (hp : 0 < p) (h : T * p = q * (y * p) + r) (h0 : 0 ≤ r) (h1 : r < y * p) : T / y = q ∧ r / p = T % y := by
  have e : r = (T - q * y) * p := by rw [Int.sub_mul, Int.mul_assoc, h]; omega
  have g0 : 0 ≤ T - q * y := by
    by_cases c : 0 ≤ T - q * y
    · exact c
    · exfalso; have : (T - q * y) * p < 0 := Int.mul_neg_of_neg_of_pos (by omega) hp
      omega
  have g1 : T - q * y < y := by
    by_cases c : T - q * y < y
    · exact c
    · exfalso; have : y * p ≤ (T - q * y) * p := Int.mul_le_mul_of_nonneg_right (by omega) (by omega)
      omega
  have hr : r / p = T - q * y := by rw [e]; exact Int.mul_ediv_cancel _ (by omega)
  have hq : T / y = q := by
    have : T = (T - q * y) + y * q := by rw [Int.mul_comm y q]; omega
    rw [this, Int.add_mul_ediv_left _ _ (by omega), Int.ediv_eq_zero_of_lt g0 g1]; omega
  refine ⟨hq, ?_⟩
  rw [hr]
  have := Int.ediv_mul_add_emod T y
  rw [hq] at this; omega
theorem shr_is (x s : Int) (S : Nat) (hs : s = S) (hS : S ≤ 64) : shr .u64 x s = x / 2 ^ S := by
  subst hs; unfold shr; rw [Int.toNat_natCast, Nat.min_eq_left (by simpa [IntKind.bits] using hS)]
theorem shl_is (x s : Int) (S : Nat) (hs : s = S) (hS : S ≤ 64) : shl .u64 x s = IntKind.u64.wrap (x * 2 ^ S) := by
  subst hs; unfold shl; rw [Int.toNat_natCast, Nat.min_eq_left (by simpa [IntKind.bits] using hS)]
theorem div64_ev (hi lo y : Int) (hy0 : 0 < y) (hy1 : y < 18446744073709551616) (hi0 : 0 ≤ hi) (hi1 : hi < y) (hl : U64 lo) :
    Ev (fun k => bits_Div64.f k hi lo y) ((hi * 18446744073709551616 + lo) / y, (hi * 18446744073709551616 + lo) % y) := by
  obtain ⟨hl0, hl1⟩ := hl
  by_cases hz : hi = 0
  · subst hz
    refine Ev.congr (fun k => ?_) (Ev.now _)
    unfold bits_Div64.f
    rw [if_neg (by omega), if_neg (by omega), if_pos rfl, Int.tdiv_eq_ediv_of_nonneg hl0, Int.tmod_eq_emod_of_nonneg hl0, Int.zero_mul, Int.zero_add]
    rw [w64_in (Int.ediv_nonneg hl0 (by omega)) (by have := Int.ediv_le_self y hl0; omega)]
  · obtain ⟨s, hs, hA, hB, hlz⟩ := lead64 y hy0 hy1
    have hp : 0 < (2 : Int) ^ s := Int.pow_pos (by decide)
    have hP : 0 < (2 : Int) ^ (64 - s) := Int.pow_pos (by decide)
    have hpP : (2 : Int) ^ s * 2 ^ (64 - s) = 18446744073709551616 := by rw [← Int.pow_add, show s + (64 - s) = 64 from by omega]; decide
    have e1 : shl .u64 y (s : Int) = y * 2 ^ s := by rw [shl_is _ _ s rfl (by omega), w64_in (by omega) hB]
    have hiY : hi * 2 ^ s + 2 ^ s ≤ y * 2 ^ s := by
      have : (hi + 1) * 2 ^ s ≤ y * 2 ^ s := Int.mul_le_mul_of_nonneg_right (by omega) (by omega)
      rw [Int.add_mul, Int.one_mul] at this; exact this
    have hi0' : 0 ≤ hi * 2 ^ s := Int.mul_nonneg hi0 (by omega)
    have e2 : shl .u64 hi (s : Int) = hi * 2 ^ s := by rw [shl_is _ _ s rfl (by omega), w64_in hi0' (by omega)]
    have e3 : IntKind.u64.wrap (s : Int) = s := w64_in (by omega) (by omega)
    have e4 : IntKind.u64.wrap (64 - (s : Int)) = ((64 - s : Nat) : Int) := by rw [w64_in (by omega) (by omega)]; omega
    have e5 : shr .u64 lo ((64 - s : Nat) : Int) = lo / 2 ^ (64 - s) := shr_is _ _ _ rfl (by omega)
    have hlo : lo / 2 ^ (64 - s) < 2 ^ s := Int.ediv_lt_of_lt_mul hP (by omega)
    have hlo0 : 0 ≤ lo / 2 ^ (64 - s) := Int.ediv_nonneg hl0 (by omega)
    have e6 : Go.bits .or .u64 (hi * 2 ^ s) (lo / 2 ^ (64 - s)) = hi * 2 ^ s + lo / 2 ^ (64 - s) :=
      or_join s hi0' (Int.mul_emod_left _ _) (by omega) hlo0 hlo (by omega)
    have e7 : shl .u64 lo (s : Int) = (lo * 2 ^ s) % 18446744073709551616 := by rw [shl_is _ _ s rfl (by omega), IntKind.wrap_u64]
    have e8 : lo * 2 ^ s = lo / 2 ^ (64 - s) * 18446744073709551616 + (lo * 2 ^ s) % 18446744073709551616 := by
      have a1 := Int.ediv_mul_add_emod (lo * 2 ^ s) 18446744073709551616
      have a2 : lo * 2 ^ s / 18446744073709551616 = lo / 2 ^ (64 - s) := by
        rw [← hpP, Int.mul_comm lo, Int.mul_ediv_mul_of_pos _ _ hp]
      rw [a2] at a1; omega
    generalize hYe : y * 2 ^ s = Y at *
    generalize hue : hi * 2 ^ s + lo / 2 ^ (64 - s) = u at *
    generalize hve : (lo * 2 ^ s) % 18446744073709551616 = v at *
    have hv0 : 0 ≤ v := by omega
    have hv1 : v < 18446744073709551616 := by omega
    have hT : (hi * 18446744073709551616 + lo) * 2 ^ s = u * 18446744073709551616 + v := by
      rw [Int.add_mul, Int.mul_right_comm, e8, ← hue]; omega
    have hYs : Y / 4294967296 * 4294967296 + Y % 4294967296 = Y := by omega
    have F1 : KFix (Y / 4294967296) (Y % 4294967296) u (v / 4294967296) := ⟨by omega, by omega, by omega, by omega, by omega, by omega, by omega, by omega⟩
    have p1 := k_pos F1
    have l1 := k_lt F1
    have g1 := k_first F1
    rw [hYs] at p1 l1
    have m1 := Int.ediv_mul_add_emod (u * 4294967296 + v / 4294967296) Y
    have m2 := Int.emod_nonneg (u * 4294967296 + v / 4294967296) (show Y ≠ 0 by omega)
    have m3 := Int.emod_lt_of_pos (u * 4294967296 + v / 4294967296) (show 0 < Y by omega)
    generalize hQ1 : (u * 4294967296 + v / 4294967296) / Y = Q1 at *
    generalize hR1 : (u * 4294967296 + v / 4294967296) % Y = R1 at *
    have F0 : KFix (Y / 4294967296) (Y % 4294967296) R1 (v % 4294967296) := ⟨by omega, by omega, by omega, by omega, by omega, by omega, by omega, by omega⟩
    have p0 := k_pos F0
    have l0 := k_lt F0
    have g0 := k_first F0
    rw [hYs] at p0 l0
    have n1 := Int.ediv_mul_add_emod (R1 * 4294967296 + v % 4294967296) Y
    have n2 := Int.emod_nonneg (R1 * 4294967296 + v % 4294967296) (show Y ≠ 0 by omega)
    have n3 := Int.emod_lt_of_pos (R1 * 4294967296 + v % 4294967296) (show 0 < Y by omega)
    have hw0 := div64_l1 (Y := Y) (s := (s : Int)) (q1 := Q1) (by omega) F0 (R1 / (Y / 4294967296) - (R1 * 4294967296 + v % 4294967296) / (Y / 4294967296 * 4294967296 + Y % 4294967296)).toNat (R1 / (Y / 4294967296)) (R1 % (Y / 4294967296)) g0 (by have := g0.2.2.2.1; omega)
    rw [hYs] at hw0
    generalize hQ0 : (R1 * 4294967296 + v % 4294967296) / Y = Q0 at *
    generalize hR0 : (R1 * 4294967296 + v % 4294967296) % Y = R0 at *
    have hfin := div_scaled (T := hi * 18446744073709551616 + lo) (y := y) (p := 2 ^ s) (q := Q1 * 4294967296 + Q0) (r := R0) hy0 hp
      (by rw [hT, hYe, Int.add_mul, Int.mul_right_comm]; omega) n2 (by rw [hYe]; exact n3)
    have r1 : IntKind.u64.wrap ((IntKind.u64.wrap (Q1 * 4294967296)) + Q0) = (hi * 18446744073709551616 + lo) / y := by
      rw [w64_in (x := Q1 * 4294967296) (by omega) (by omega), w64_in (by omega) (by omega), hfin.1]
    have r2 : shr .u64 (IntKind.u64.wrap ((IntKind.u64.wrap ((IntKind.u64.wrap (R1 * 4294967296)) + v % 4294967296)) - (IntKind.u64.wrap (Q0 * Y)))) (s : Int) = (hi * 18446744073709551616 + lo) % y := by
      rw [shr_is _ _ s rfl (by omega), ← hfin.2]
      congr 1
      simp only [IntKind.wrap_u64]; omega
    rw [r1, r2] at hw0
    have hj2 : Ev (fun k => bits_Div64.j2 k Y (s : Int) (Y / 4294967296) (Y % 4294967296) u (v / 4294967296) (v % 4294967296) Q1) ((hi * 18446744073709551616 + lo) / y, (hi * 18446744073709551616 + lo) % y) := by
      refine Ev.step (fun k => ?_) hw0
      have a1 : IntKind.u64.wrap ((IntKind.u64.wrap ((IntKind.u64.wrap (u * 4294967296)) + v / 4294967296)) - (IntKind.u64.wrap (Q1 * Y))) = R1 := by
        simp only [IntKind.wrap_u64]; omega
      have a2 : IntKind.u64.wrap (Int.tdiv R1 (Y / 4294967296)) = R1 / (Y / 4294967296) := by
        rw [Int.tdiv_eq_ediv_of_nonneg m2]
        have := g0.2.2.2.2
        exact w64_in (Int.ediv_nonneg m2 (by omega)) (by omega)
      have a3 : IntKind.u64.wrap (R1 - (IntKind.u64.wrap (R1 / (Y / 4294967296) * (Y / 4294967296)))) = R1 % (Y / 4294967296) := by
        have b1 := g0.1; have b2 := g0.2.1; have b3 := g0.2.2.1
        simp only [IntKind.wrap_u64]; omega
      simp only [bits_Div64.j2]
      rw [if_neg (by omega), a1, a2, a3]
    have hj0 := div64_l0 (Y := Y) (s := (s : Int)) (un0 := v % 4294967296) F1 (by rw [hYs, hQ1]; exact hj2) (u / (Y / 4294967296) - (u * 4294967296 + v / 4294967296) / (Y / 4294967296 * 4294967296 + Y % 4294967296)).toNat (u / (Y / 4294967296)) (u % (Y / 4294967296)) g1 (by have := g1.2.2.2.1; omega)
    obtain ⟨K, hK⟩ := hj0
    refine ⟨K + 1, fun k hk => ?_⟩
    obtain ⟨m, rfl⟩ : ∃ m, k = m + 1 := ⟨k - 1, by omega⟩
    have hK' := hK (m + 1) (by omega)
    simp only at hK'
    show bits_Div64.f (m + 1) hi lo y = _
    unfold bits_Div64.f
    rw [if_neg (by omega), if_neg (by omega), if_neg hz, hlz m]
    simp only [Option.bind_some]
    have c1 : IntKind.u64.wrap (Int.tdiv u (Y / 4294967296)) = u / (Y / 4294967296) := by
      rw [Int.tdiv_eq_ediv_of_nonneg F1.ul]
      have := g1.2.2.2.2
      exact w64_in (Int.ediv_nonneg F1.ul (by omega)) (by omega)
    have c2 : IntKind.u64.wrap (u - (IntKind.u64.wrap (u / (Y / 4294967296) * (Y / 4294967296)))) = u % (Y / 4294967296) := by
      have b1 := g1.1; have b2 := g1.2.1; have b3 := g1.2.2.1
      simp only [IntKind.wrap_u64]; omega
    rw [e3, e4, e1, e2, e5, e6, e7, if_pos (by omega), if_pos (by omega), if_neg (by omega), and32 (by omega) (by omega), and32 (by omega) (by omega), c1, c2, hK']
end Go.Proofs.Ythbkooonlhldnaa.PX
end
section
namespace Go.Proofs.Ythbkooonlhldnaa.PX
open Go.RowKit Go.Proofs.YthbkooonlhldnaaW.PrintWords Go.Proofs.YthbkooonlhldnaaW.PrintLast Go.Proofs.YthbkooonlhldnaaW.PrintMore
set_option linter.unusedVariables false
set_option linter.unusedSimpArgs false

theorem mul_bound {a b : Int} (ha : U64 a) (hb : U64 b) : a * b ≤ 18446744073709551615 * 18446744073709551615 := by
  have := ha.2; have := hb.2
  exact Int.mul_le_mul (by omega) (by omega) hb.1 (by omega)
/- one bit of the reference's division -/
end Go.Proofs.Ythbkooonlhldnaa.PX
end
section
namespace Go.Proofs.Ythbkooonlhldnaa.PX
open Go.RowKit Go.Proofs.YthbkooonlhldnaaW.PrintWords Go.Proofs.YthbkooonlhldnaaW.PrintLast Go.Proofs.YthbkooonlhldnaaW.PrintMore
set_option linter.unusedVariables false
set_option linter.unusedSimpArgs false

/- is the quotient q with the remainder r of a division by c rounded up in the mode m -/
def rup (m q r c : Int) : Bool := if m = 1 then decide (0 < r) else if m = 2 then decide (c ≤ 2 * r) else if m = 3 then decide (c < 2 * r ∨ c = 2 * r ∧ q % 2 = 1) else false
def rdiv (W c m : Int) : Int := W / c + (if rup m (W / c) (W % c) c = true then 1 else 0)
/- P1.2: the rounded quotient, and the error -/
def divS (W c m : Int) : Int × Int := if c = 0 ∨ m < 0 ∨ 3 < m then (0, 2) else if 18446744073709551616 ≤ rdiv W c m then (0, 3) else (rdiv W c m, 0)
theorem order_is (a b : Int) : exact_order.f a b = some (if a < b then -1 else if b < a then 1 else 0) := by
  unfold exact_order.f
  by_cases c : a < b
  · rw [if_pos c, if_pos c]
  · rw [if_neg c, if_neg c]
    by_cases d : a > b
    · rw [if_pos d, if_pos d]
    · rw [if_neg d, if_neg d]
theorem above_is (q r c m : Int) (hq : 0 ≤ q) (hr0 : 0 ≤ r) (hr1 : r < c) (hc : c < 18446744073709551616) : exact_above.f q r c m = some (rup m q r c) := by
  unfold exact_above.f rup
  rw [order_is, w64_in (by omega) (by omega)]
  simp only [Option.bind_some]
  by_cases c1 : m = 1
  · rw [if_pos c1, if_pos c1]
  · rw [if_neg c1, if_neg c1]
    by_cases c2 : m = 2
    · rw [if_pos c2, if_pos c2]
      by_cases d1 : r < c - r
      · rw [if_pos d1, decide_eq_false (by omega), decide_eq_false (by omega)]
      · rw [if_neg d1]
        by_cases d2 : c - r < r
        · rw [if_pos d2, decide_eq_true (by omega), decide_eq_true (by omega)]
        · rw [if_neg d2, decide_eq_true (by omega), decide_eq_true (by omega)]
    · rw [if_neg c2, if_neg c2]
      by_cases c3 : m = 3
      · rw [if_pos c3, if_pos c3, Int.tmod_eq_emod_of_nonneg hq]
        by_cases d1 : r < c - r
        · rw [if_pos d1, if_neg (by decide), if_neg (by decide), decide_eq_false (by omega)]
        · rw [if_neg d1]
          by_cases d2 : c - r < r
          · rw [if_pos d2, if_pos (by decide), decide_eq_true (by omega)]
          · rw [if_neg d2, if_neg (by decide), if_pos rfl]
            refine congrArg some ?_
            rw [Bool.eq_iff_iff]; simp only [beq_iff_eq, decide_eq_true_eq]; omega
      · rw [if_neg c3, if_neg c3]
theorem rdiv_big {W c m hi : Int} (hc : 0 < c) (h : c ≤ hi) (hW : hi * 18446744073709551616 ≤ W) : 18446744073709551616 ≤ rdiv W c m := by
  have : 18446744073709551616 ≤ W / c := Int.le_ediv_of_mul_le hc (by have := Int.mul_le_mul_of_nonneg_left h (show (0 : Int) ≤ 18446744073709551616 by omega); omega)
  unfold rdiv; split <;> omega
theorem exactDiv_ev (hi lo c m : Int) (hh : U64 hi) (hl : U64 lo) (hc : U64 c) : Ev (fun k => exact_Div.f k hi lo c m) (divS (hi * 18446744073709551616 + lo) c m) := by
  have hc1 := hc.2
  by_cases hb : c = 0 ∨ m < 0 ∨ 3 < m
  · have e : divS (hi * 18446744073709551616 + lo) c m = (0, 2) := by unfold divS; rw [if_pos hb]
    rw [e]
    refine Ev.congr (f := fun k => exact_Div.j0 k c m true hi lo) (fun k => ?_) (Ev.step (fun k => ?_) (Ev.now _))
    · unfold exact_Div.f
      by_cases c1 : c = 0
      · rw [if_pos c1]
      · rw [if_neg c1]
        by_cases c2 : m < 0
        · rw [if_pos c2]
        · rw [if_neg c2, decide_eq_true (by omega)]
    · simp only [exact_Div.j0]; rfl
  · have hc0 : 0 < c := by have := hc.1; omega
    have e0 : ∀ k, exact_Div.f k hi lo c m = exact_Div.j0 k c m false hi lo := fun k => by
      unfold exact_Div.f
      rw [if_neg (by omega), if_neg (by omega), decide_eq_false (by omega)]
    refine Ev.congr e0 ?_
    unfold divS
    rw [if_neg hb]
    by_cases c1 : hi ≥ c
    · rw [if_pos (rdiv_big hc0 c1 (by have := hl.1; omega))]
      refine Ev.step (fun k => ?_) (Ev.now _)
      simp only [exact_Div.j0]
      rw [if_neg (by decide), if_pos c1]
    · have hd := div64_ev hi lo c hc0 hc1 hh.1 (by omega) hl
      have hW0 : 0 ≤ hi * 18446744073709551616 + lo := by have := hh.1; have := hl.1; omega
      have q0 := Int.ediv_nonneg hW0 (show 0 ≤ c by omega)
      have q1 : (hi * 18446744073709551616 + lo) / c < 18446744073709551616 := by
        refine Int.ediv_lt_of_lt_mul hc0 ?_
        have : (hi + 1) * 18446744073709551616 ≤ c * 18446744073709551616 := Int.mul_le_mul_of_nonneg_right (by omega) (by omega)
        have := hl.2; omega
      have r0 := Int.emod_nonneg (hi * 18446744073709551616 + lo) (show c ≠ 0 by omega)
      have r1 := Int.emod_lt_of_pos (hi * 18446744073709551616 + lo) hc0
      unfold rdiv
      generalize hq : (hi * 18446744073709551616 + lo) / c = q at *
      generalize hr : (hi * 18446744073709551616 + lo) % c = r at *
      refine Ev.up ?_
      simp only [exact_Div.j0, if_neg c1, Bool.false_eq_true, if_false]
      refine Ev.bind hd (Ev.cst ?_)
      try simp only []
      rw [above_is q r c m q0 r0 r1 hc1]
      simp only [Option.bind_some]
      cases hu : rup m q r c
      · simp only [Bool.false_eq_true, if_false, Int.add_zero]
        rw [if_neg (by omega)]
      · simp only [if_true, IntKind.wrap_u64]
        by_cases cz : (q + 1) % 18446744073709551616 = 0
        · rw [if_pos cz, if_pos (by omega)]
        · rw [if_neg cz, if_neg (by omega), show (q + 1) % 18446744073709551616 = q + 1 by omega]
theorem mul64_is (a b : Int) (ha : U64 a) (hb : U64 b) : bits_Mul64.f a b = some (a * b / 18446744073709551616, a * b % 18446744073709551616) := by
  obtain ⟨ha0, ha1⟩ := ha
  obtain ⟨hb0, hb1⟩ := hb
  unfold bits_Mul64.f
  rw [and32 ha0 ha1, and32 hb0 hb1]
  have ea : a = a / 4294967296 * 4294967296 + a % 4294967296 := by omega
  have eb : b = b / 4294967296 * 4294967296 + b % 4294967296 := by omega
  have hx1 : 0 ≤ a / 4294967296 ∧ a / 4294967296 ≤ 4294967295 := by omega
  have hx0 : 0 ≤ a % 4294967296 ∧ a % 4294967296 ≤ 4294967295 := by omega
  have hy1 : 0 ≤ b / 4294967296 ∧ b / 4294967296 ≤ 4294967295 := by omega
  have hy0 : 0 ≤ b % 4294967296 ∧ b % 4294967296 ≤ 4294967295 := by omega
  have hab : a * b = a / 4294967296 * (b / 4294967296) * 18446744073709551616 + (a / 4294967296 * (b % 4294967296) + a % 4294967296 * (b / 4294967296)) * 4294967296 + a % 4294967296 * (b % 4294967296) := by
    have : a * b = (a / 4294967296 * 4294967296 + a % 4294967296) * (b / 4294967296 * 4294967296 + b % 4294967296) := by rw [← ea, ← eb]
    rw [this, Int.add_mul, Int.mul_add, Int.mul_add]
    have e1 : a / 4294967296 * 4294967296 * (b / 4294967296 * 4294967296) = a / 4294967296 * (b / 4294967296) * 18446744073709551616 := by
      rw [Int.mul_assoc, Int.mul_left_comm 4294967296, Int.mul_assoc]; rfl
    have e2 : a / 4294967296 * 4294967296 * (b % 4294967296) = a / 4294967296 * (b % 4294967296) * 4294967296 := by
      rw [Int.mul_right_comm]
    have e3 : a % 4294967296 * (b / 4294967296 * 4294967296) = a % 4294967296 * (b / 4294967296) * 4294967296 := by
      rw [Int.mul_assoc]
    rw [e1, e2, e3]; omega
  have b11 := Int.mul_nonneg hx1.1 hy1.1
  have b10 := Int.mul_nonneg hx1.1 hy0.1
  have b01 := Int.mul_nonneg hx0.1 hy1.1
  have b00 := Int.mul_nonneg hx0.1 hy0.1
  have c11 := Int.mul_le_mul hx1.2 hy1.2 hy1.1 (by decide)
  have c10 := Int.mul_le_mul hx1.2 hy0.2 hy0.1 (by decide)
  have c01 := Int.mul_le_mul hx0.2 hy1.2 hy1.1 (by decide)
  have c00 := Int.mul_le_mul hx0.2 hy0.2 hy0.1 (by decide)
  rw [hab]
  generalize a / 4294967296 * (b / 4294967296) = p11 at *
  generalize a / 4294967296 * (b % 4294967296) = p10 at *
  generalize a % 4294967296 * (b / 4294967296) = p01 at *
  generalize a % 4294967296 * (b % 4294967296) = p00 at *
  rw [w64_in (x := p00) b00 (by omega), w64_in (x := p10) b10 (by omega), w64_in (x := p01) b01 (by omega), w64_in (x := p11) b11 (by omega)]
  rw [w64_in (x := p10 + p00 / 4294967296) (by omega) (by omega), and32 (by omega) (by omega)]
  rw [w64_in (x := (p10 + p00 / 4294967296) % 4294967296 + p01) (by omega) (by omega)]
  rw [w64_in (x := p11 + (p10 + p00 / 4294967296) / 4294967296) (by omega) (by omega)]
  rw [w64_in (x := p11 + (p10 + p00 / 4294967296) / 4294967296 + ((p10 + p00 / 4294967296) % 4294967296 + p01) / 4294967296) (by omega) (by omega), IntKind.wrap_u64]
  exact congrArg some (Prod.ext (by simp only []; omega) rfl)
theorem exactMul_is (a b : Int) (ha : U64 a) (hb : U64 b) : exact_Mul.f a b = some (a * b / 18446744073709551616, a * b % 18446744073709551616) := by
  unfold exact_Mul.f; rw [mul64_is a b ha hb]; rfl
theorem wide_u64 {W : Int} (h0 : 0 ≤ W) (h1 : W < 340282366920938463463374607431768211456) : U64 (W / 18446744073709551616) ∧ U64 (W % 18446744073709551616) ∧ W / 18446744073709551616 * 18446744073709551616 + W % 18446744073709551616 = W := by
  unfold U64; omega
theorem prod_wide {a b : Int} (ha : U64 a) (hb : U64 b) : 0 ≤ a * b ∧ a * b < 340282366920938463463374607431768211456 :=
  ⟨Int.mul_nonneg ha.1 hb.1, by have := mul_bound ha hb; omega⟩
theorem exactMulDiv_ev (a b c m : Int) (ha : U64 a) (hb : U64 b) (hc : U64 c) : Ev (fun k => exact_MulDiv.f k a b c m) (divS (a * b) c m) := by
  unfold exact_MulDiv.f
  obtain ⟨h0, h1⟩ := prod_wide ha hb
  obtain ⟨u1, u2, e⟩ := wide_u64 h0 h1
  rw [exactMul_is a b ha hb]
  simp only [Option.bind_some]
  have := exactDiv_ev _ _ c m u1 u2 hc
  rw [e] at this
  exact Ev.bind this (Ev.cst rfl)
end Go.Proofs.Ythbkooonlhldnaa.PX
end
section
namespace Go.Proofs.Ythbkooonlhldnaa.PX
open Go.RowKit Go.Proofs.YthbkooonlhldnaaW.PrintWords Go.Proofs.YthbkooonlhldnaaW.PrintLast Go.Proofs.YthbkooonlhldnaaW.PrintMore
set_option linter.unusedVariables false
set_option linter.unusedSimpArgs false

theorem Ev.ite {α : Type} {c : Prop} [Decidable c] {f g : Nat → Option α} {r : α} (h1 : c → Ev f r) (h2 : ¬ c → Ev g r) : Ev (fun k => if c then f k else g k) r := by
  by_cases h : c
  · exact Ev.congr (fun k => if_pos h) (h1 h)
  · exact Ev.congr (fun k => if_neg h) (h2 h)
theorem Ev.pos {α : Type} {c : Prop} [Decidable c] {f g : Nat → Option α} {r : α} (h : c) (h1 : Ev f r) : Ev (fun k => if c then f k else g k) r := Ev.congr (fun k => if_pos h) h1
theorem Ev.neg {α : Type} {c : Prop} [Decidable c] {f g : Nat → Option α} {r : α} (h : ¬ c) (h1 : Ev g r) : Ev (fun k => if c then f k else g k) r := Ev.congr (fun k => if_neg h) h1
end Go.Proofs.Ythbkooonlhldnaa.PX
end
section
namespace Go.Proofs.Ythbkooonlhldnaa.PX
open Go.RowKit Go.Proofs.YthbkooonlhldnaaW.PrintWords Go.Proofs.YthbkooonlhldnaaW.PrintLast Go.Proofs.YthbkooonlhldnaaW.PrintMore
set_option linter.unusedVariables false
set_option linter.unusedSimpArgs false

theorem bit_i64 (b : Int) (n : Nat) (h0 : 0 ≤ b) (h1 : b ≤ 1000000000000) (hn : n ≤ 62) : Go.bits .and .i64 (shr .i64 b (n : Int)) 1 = b / 2 ^ n % 2 := by
  have e : shr .i64 b (n : Int) = b / 2 ^ n := shr_small (k := .i64) rfl (by show (n : Int) ≤ 64; omega) ▸ rfl
  rw [e]
  have hp : 0 < (2 : Int) ^ n := Int.pow_pos (by decide)
  have g0 := Int.ediv_nonneg h0 (show 0 ≤ (2 : Int) ^ n by omega)
  have g1 := Int.ediv_le_self (2 ^ n) h0
  have := bits_mask .i64 62 (by decide) (fun n a b => by rw [IntKind.wrap_i64]; have : (2:Int)^62 = 4611686018427387904 := by decide
                                                         omega) 1 (by decide) (b / 2 ^ n) g0 (by have : (2:Int)^62 = 4611686018427387904 := by decide
                                                                                                 omega)
  simpa using this
theorem half_of (b : Int) (n : Nat) : b / 2 ^ n = 2 * (b / 2 ^ (n + 1)) + b / 2 ^ n % 2 := by
  have : b / 2 ^ (n + 1) = b / 2 ^ n / 2 := by rw [Int.pow_succ, Int.ediv_ediv_of_nonneg (Int.le_of_lt (Int.pow_pos (by decide)))]
  rw [this]; omega
/- a quotient told by its remainder -/
theorem quot_is {t c r p : Int} (h : t * c + r = p) (h0 : 0 ≤ r) (h1 : r < c) : t = p / c := by
  rw [← h, Int.add_comm, Int.add_mul_ediv_right _ _ (by omega), Int.ediv_eq_zero_of_lt h0 h1]; omega
theorem t_le {t c r rest m : Int} (h : t * c + r = rest * m) (h0 : 0 ≤ r) (h1 : 0 < c) (hr : rest < c) (hm : 0 ≤ m) : t ≤ m := by
  have : rest * m ≤ c * m := Int.mul_le_mul_of_nonneg_right (by omega) hm
  have e : m * c = c * m := Int.mul_comm _ _
  exact Int.le_of_mul_le_mul_right (by omega) h1
theorem md_l0 (b c rest q0 : Int) (hb0 : 0 ≤ b) (hb1 : b ≤ 1000000000000) (hc0 : 0 < c) (hc1 : c ≤ 1000000000000000) (hr0 : 0 ≤ rest) (hr1 : rest < c) (n : Nat) : n ≤ 61 → ∀ t r : Int, t * c + r = rest * (b / 2 ^ n) → 0 ≤ r → r < c → 0 ≤ t →
    Ev (fun k => customsref21_MulDiv.l0 k b c q0 rest t r ((n : Int) - 1)) (wrap64 (q0 + rest * b / c)) := by
  induction n with
  | zero =>
    intro _ t r e h0 h1 ht
    refine Ev.up ?_
    simp only [customsref21_MulDiv.l0]
    refine Ev.neg (by omega) ?_
    have e2 : t * c + r = rest * b := by rw [e]; simp
    rw [quot_is e2 h0 h1]
    exact Ev.now _
  | succ n ih =>
    intro hn t r e h0 h1 ht
    have hm := Int.ediv_nonneg hb0 (show 0 ≤ (2 : Int) ^ (n + 1) from Int.le_of_lt (Int.pow_pos (by decide)))
    have hm1 := Int.ediv_le_self (2 ^ (n + 1)) hb0
    have htm := t_le e h0 hc0 hr1 hm
    have hd := half_of b n
    have en : ((n + 1 : Nat) : Int) - 1 = (n : Int) := by omega
    have step : ∀ t1 r1 : Int, t1 * c + r1 = 2 * (rest * (b / 2 ^ (n + 1))) → 0 ≤ r1 → r1 < c → 0 ≤ t1 → t1 ≤ 2 * 1000000000000 + 1 → Ev (fun k => customsref21_MulDiv.j1 k b c q0 rest t1 r1 (n : Int)) (wrap64 (q0 + rest * b / c)) := by
      intro t1 r1 e1 k0 k1 k2 k3
      have ew : wrap64 ((n : Int) - 1) = (n : Int) - 1 := wrap64_of (by omega) (by omega)
      refine Ev.up ?_
      simp only [customsref21_MulDiv.j1, ew]
      clear ew
      refine Ev.pos (by omega) ?_
      rw [bit_i64 b n hb0 hb1 (by omega)]
      refine Ev.ite (fun d => ?_) (fun d => ?_)
      · have e2 : rest * (b / 2 ^ n) = 2 * (rest * (b / 2 ^ (n + 1))) + rest := by
          rw [hd, d, Int.mul_add, Int.mul_one, Int.mul_left_comm]
        have w1 : wrap64 (r1 + rest) = r1 + rest := wrap64_of (by omega) (by omega)
        have w2 : wrap64 (r1 + rest - c) = r1 + rest - c := wrap64_of (by omega) (by omega)
        have w3 : wrap64 (t1 + 1) = t1 + 1 := wrap64_of (by omega) (by omega)
        simp only [w1, w2, w3]
        clear w1 w2 w3
        refine Ev.ite (fun f => ?_) (fun f => ?_)
        · exact ih (by omega) (t1 + 1) (r1 + rest - c) (by rw [Int.add_mul, Int.one_mul]; omega) (by omega) (by omega) (by omega)
        · exact ih (by omega) t1 (r1 + rest) (by omega) (by omega) (by omega) k2
      · have e2 : rest * (b / 2 ^ n) = 2 * (rest * (b / 2 ^ (n + 1))) := by
          rw [hd, show b / 2 ^ n % 2 = 0 by omega, Int.add_zero, Int.mul_left_comm]
        exact ih (by omega) t1 r1 (by omega) k0 k1 k2
    refine Ev.up ?_
    simp only [customsref21_MulDiv.l0]
    rw [en]
    have w1 : wrap64 (2 * r) = 2 * r := wrap64_of (by omega) (by omega)
    have w2 : wrap64 (2 * t) = 2 * t := wrap64_of (by omega) (by omega)
    have w3 : wrap64 (2 * t + 1) = 2 * t + 1 := wrap64_of (by omega) (by omega)
    have w4 : wrap64 (2 * r - c) = 2 * r - c := wrap64_of (by omega) (by omega)
    simp only [w1, w2, w3, w4]
    clear w1 w2 w3 w4
    refine Ev.pos (by omega) (Ev.ite (fun f => ?_) (fun f => ?_))
    · exact step (2 * t + 1) (2 * r - c) (by rw [Int.add_mul, Int.one_mul, Int.mul_assoc]; omega) (by omega) (by omega) (by omega) (by omega)
    · exact step (2 * t) (2 * r) (by rw [Int.mul_assoc]; omega) (by omega) (by omega) (by omega) (by omega)
theorem big_zero {b : Int} (h0 : 0 ≤ b) (h1 : b ≤ 1000000000000) : b / 2 ^ 61 = 0 := Int.ediv_eq_zero_of_lt h0 (by have : (2:Int)^61 = 2305843009213693952 := by decide
                                                                                                                   omega)
theorem refMulDiv21_ev (a b c : Int) (ha0 : 0 ≤ a) (ha1 : a ≤ 1000000000000) (hb0 : 0 ≤ b) (hb1 : b ≤ 1000000000000) (hc0 : 0 < c) (hc1 : c ≤ 1000000000000000) (hq : a * b / c ≤ 4000000000000000000) : Ev (fun k => customsref21_MulDiv.f k a b c) (a * b / c) := by
  unfold customsref21_MulDiv.f
  refine Ev.neg (by omega) ?_
  rw [Int.tdiv_eq_ediv_of_nonneg ha0, Int.tmod_eq_emod_of_nonneg ha0]
  have e : a * b / c = a / c * b + a % c * b / c := by
    have : a * b = a % c * b + a / c * b * c := by
      have h := Int.emod_add_mul_ediv a c
      calc a * b = (a % c + c * (a / c)) * b := by rw [h]
        _ = a % c * b + a / c * b * c := by rw [Int.add_mul, Int.mul_comm c (a / c), Int.mul_assoc, Int.mul_comm c b, ← Int.mul_assoc]
    rw [this, Int.add_mul_ediv_right _ _ (by omega)]; omega
  have r0 := Int.emod_nonneg a (show c ≠ 0 by omega)
  have r1 := Int.emod_lt_of_pos a hc0
  have d0 := Int.ediv_nonneg ha0 (show 0 ≤ c by omega)
  have d1 := Int.ediv_le_self c ha0
  have p0 : 0 ≤ a / c * b := Int.mul_nonneg d0 hb0
  have p1 : 0 ≤ a % c * b / c := Int.ediv_nonneg (Int.mul_nonneg r0 hb0) (by omega)
  have h := md_l0 b c (a % c) (a / c * b) hb0 hb1 hc0 hc1 r0 r1 61 (Nat.le_refl _) 0 0 (by rw [big_zero hb0 hb1]; simp) (by omega) hc0 (by omega)
  rw [wrap64_of (show -9223372036854775808 ≤ a / c by omega) (by omega), wrap64_of (show -9223372036854775808 ≤ a / c * b by omega) (by omega)]
  refine Ev.as h ?_
  rw [e, wrap64_of (by omega) (by omega)]
end Go.Proofs.Ythbkooonlhldnaa.PX
end
section
namespace Go.Proofs.Ythbkooonlhldnaa.PX
open Go.RowKit Go.Proofs.YthbkooonlhldnaaW.PrintWords Go.Proofs.YthbkooonlhldnaaW.PrintLast Go.Proofs.YthbkooonlhldnaaW.PrintMore
set_option linter.unusedVariables false
set_option linter.unusedSimpArgs false

theorem awake_ev : Ev (fun k => customslaw27_awake.f k) true := Ev.of (fun k => customslaw27_awake.mono k) (k := 200) (by decide +kernel)
theorem quot_le {a n u : Int} (ha : 0 ≤ a) (hn : 0 ≤ n) (hu : 0 < u) (h : n ≤ u) : 0 ≤ a * n / u ∧ a * n / u ≤ a := by
  refine ⟨Int.ediv_nonneg (Int.mul_nonneg ha hn) (by omega), ?_⟩
  refine Int.le_trans (Int.ediv_le_ediv hu (Int.mul_le_mul_of_nonneg_left h ha)) ?_
  rw [Int.mul_ediv_cancel _ (by omega)]; exact Int.le_refl _
theorem upto_ev (a u n : Int) (ha : 0 ≤ a) (ha1 : a ≤ 1000000000000) (hu : 0 < u) (hu1 : u ≤ 1000000000) (hn : 0 ≤ n) (h : n ≤ u) : Ev (fun k => latent_upto.f k a u n) (a * n / u) := by
  unfold latent_upto.f
  rw [w64_in ha (by omega), w64_in hn (by omega), w64_in (by omega : 0 ≤ u) (by omega)]
  have q := quot_le ha hn hu h
  have e : divS (a * n) u 0 = (a * n / u, 0) := by
    unfold divS
    rw [if_neg (by omega)]
    have e2 : rdiv (a * n) u 0 = a * n / u := by unfold rdiv rup; simp
    rw [e2, if_neg (by omega)]
  refine Ev.bind (exactMulDiv_ev a n u 0 ⟨ha, by omega⟩ ⟨hn, by omega⟩ ⟨by omega, by omega⟩) ?_
  rw [e, wrap64_of (by omega) (by omega)]
  exact Ev.now _
def badP (a u x y : Int) : Prop := a < 0 ∨ 1000000000000 < a ∨ u < 1 ∨ 1000000000 < u ∨ x < 0 ∨ y < x ∨ u < y
instance (a u x y : Int) : Decidable (badP a u x y) := by unfold badP; infer_instance
def portS (a u x y : Int) : Int × Int := if badP a u x y then (0, 2) else (a * y / u - a * x / u, 0)
theorem port_ev (a u x y : Int) : Ev (fun k => latent_Portion.f k a u x y) (portS a u x y) := by
  have bad : badP a u x y → Ev (fun k => latent_Portion.j0 k a u x y true) (portS a u x y) := fun h => by
    unfold portS
    rw [if_pos h]
    refine Ev.up ?_
    simp only [latent_Portion.j0, if_true]
    exact Ev.now _
  unfold latent_Portion.f
  refine Ev.ite (fun c => bad (by unfold badP; omega)) (fun c1 => Ev.ite (fun c => bad (by unfold badP; omega)) (fun c2 => Ev.ite (fun c => bad (by unfold badP; omega)) (fun c3 => Ev.ite (fun c => bad (by unfold badP; omega)) (fun c4 => Ev.ite (fun c => bad (by unfold badP; omega)) (fun c5 => Ev.ite (fun c => bad (by unfold badP; omega)) (fun c6 => ?_))))))
  by_cases d : y > u
  · exact Ev.congr (fun k => congrArg (latent_Portion.j0 k a u x y) (decide_eq_true d)) (bad (by unfold badP; omega))
  · refine Ev.congr (fun k => congrArg (latent_Portion.j0 k a u x y) (decide_eq_false d)) ?_
    refine Ev.up ?_
    simp only [latent_Portion.j0, Bool.false_eq_true, if_false]
    refine Ev.bind (upto_ev a u y (by omega) (by omega) (by omega) (by omega) (by omega) (by omega)) (Ev.bind (upto_ev a u x (by omega) (by omega) (by omega) (by omega) (by omega) (by omega)) ?_)
    unfold portS
    rw [if_neg (by unfold badP; omega)]
    have q1 := quot_le (a := a) (n := y) (u := u) (by omega) (by omega) (by omega) (by omega)
    have q2 := quot_le (a := a) (n := x) (u := u) (by omega) (by omega) (by omega) (by omega)
    rw [wrap64_of (by omega) (by omega)]
    exact Ev.now _
theorem refPort_ev (a u x y : Int) : Ev (fun k => customsref27_Portion.f k a u x y) (portS a u x y) := by
  have bad : badP a u x y → Ev (fun k => customsref27_Portion.j0 k a u x y true) (portS a u x y) := fun h => by
    unfold portS
    rw [if_pos h]
    refine Ev.up ?_
    simp only [customsref27_Portion.j0, if_true]
    exact Ev.now _
  unfold customsref27_Portion.f
  refine Ev.ite (fun c => bad (by unfold badP; omega)) (fun c1 => Ev.ite (fun c => bad (by unfold badP; omega)) (fun c2 => Ev.ite (fun c => bad (by unfold badP; omega)) (fun c3 => Ev.ite (fun c => bad (by unfold badP; omega)) (fun c4 => Ev.ite (fun c => bad (by unfold badP; omega)) (fun c5 => Ev.ite (fun c => bad (by unfold badP; omega)) (fun c6 => ?_))))))
  by_cases d : y > u
  · exact Ev.congr (fun k => congrArg (customsref27_Portion.j0 k a u x y) (decide_eq_true d)) (bad (by unfold badP; omega))
  · refine Ev.congr (fun k => congrArg (customsref27_Portion.j0 k a u x y) (decide_eq_false d)) ?_
    refine Ev.up ?_
    simp only [customsref27_Portion.j0, Bool.false_eq_true, if_false]
    have q1 := quot_le (a := a) (n := y) (u := u) (by omega) (by omega) (by omega) (by omega)
    have q2 := quot_le (a := a) (n := x) (u := u) (by omega) (by omega) (by omega) (by omega)
    refine Ev.bind (refMulDiv21_ev a y u (by omega) (by omega) (by omega) (by omega) (by omega) (by omega) (by omega)) (Ev.bind (refMulDiv21_ev a x u (by omega) (by omega) (by omega) (by omega) (by omega) (by omega) (by omega)) ?_)
    unfold portS
    rw [if_neg (by unfold badP; omega), wrap64_of (by omega) (by omega)]
    exact Ev.now _
theorem within27_is (x m : Int) (hx : I64 x) (h0 : 0 < m) (h1 : m ≤ 4611686018427387904) : customsmade_Within.f x m = some (x % m) := by
  have hx0 := hx.1
  have hx1 := hx.2
  unfold customsmade_Within.f
  have e1 : -m < Int.tmod x m ∧ Int.tmod x m < m := by
    by_cases h : 0 ≤ x
    · rw [Int.tmod_eq_emod_of_nonneg h]; exact ⟨by have := Int.emod_nonneg x (show m ≠ 0 by omega); omega, Int.emod_lt_of_pos x h0⟩
    · have := Int.emod_nonneg (-x) (show m ≠ 0 by omega)
      have := Int.emod_lt_of_pos (-x) h0
      have e : Int.tmod x m = -((-x) % m) := by
        have := Int.neg_tmod (-x) m
        rw [Int.neg_neg] at this
        rw [this, Int.tmod_eq_emod_of_nonneg (by omega)]
      omega
  have e2 : Int.tmod (Int.tmod x m + m) m = x % m := by
    rw [Int.tmod_eq_emod_of_nonneg (by omega), Int.add_emod_right]
    by_cases h : 0 ≤ x
    · rw [Int.tmod_eq_emod_of_nonneg h, Int.emod_emod]
    · have h2 : x = Int.tmod x m + m * Int.tdiv x m := (Int.tmod_add_mul_tdiv x m).symm
      have h3 : (Int.tmod x m + m * Int.tdiv x m) % m = Int.tmod x m % m := Int.add_mul_emod_self_left _ _ _
      rw [← h2] at h3; exact h3.symm
  rw [if_neg (by omega), wrap64_of (by omega) (by omega), e2]
theorem within_ex (a m : Int) (ha : I64 a) (h0 : 0 < m) (h1 : m ≤ 4611686018427387904) : ∃ r, customsmade_Within.f a m = some r ∧ 0 ≤ r ∧ r < m :=
  ⟨_, within27_is a m ha h0 h1, Int.emod_nonneg _ (by omega), Int.emod_lt_of_pos _ h0⟩
end Go.Proofs.Ythbkooonlhldnaa.PX
end
section
namespace Go.Proofs.Ythbkooonlhldnaa.Pure
open Go.RowKit Go.Proofs.Ythbkooonlhldnaa.PX Go.Proofs.YthbkooonlhldnaaW.PrintWords Go.Proofs.YthbkooonlhldnaaW.PrintLast Go.Proofs.YthbkooonlhldnaaW.PrintMore
set_option linter.unusedVariables false
set_option linter.unusedSimpArgs false

theorem LatentPortion : customslaw27_LatentPortion.Pure := by
  intro a0 a1 a2 a3 a4 a5 h0 h1 h2 h3 h4
  refine Ev.rounds (r := true) ?_
  have aw : Ev (fun k => (customslaw27_awake.f k).bind fun c => some c) true := Ev.bind awake_ev (Ev.now _)
  have j0 : ∀ (a u x y z : Int) (raw : Bool), (raw = false → 0 ≤ a ∧ a ≤ 1000000000000 ∧ 1 ≤ u ∧ u ≤ 1000000000 ∧ 0 ≤ x ∧ x ≤ y ∧ y ≤ z ∧ z ≤ u) → Ev (fun k => customslaw27_LatentPortion.j0 k a u x y z raw) true := by
    intro a u x y z raw hr
    refine Ev.up ?_
    simp only [customslaw27_LatentPortion.j0]
    refine Ev.bind (port_ev a u x y) (Ev.bind (refPort_ev a u x y) (Ev.pos rfl ?_))
    rw [show ((portS a u x y).2 != (portS a u x y).2) = false from bne_self_eq_false _]
    refine Ev.up ?_
    simp only [customslaw27_LatentPortion.j1, Bool.false_eq_true, if_false]
    cases raw with
    | true => exact Ev.pos rfl aw
    | false =>
      obtain ⟨r0, r1, r2, r3, r4, r5, r6, r7⟩ := hr rfl
      refine Ev.neg (by decide) ?_
      refine Ev.bind (port_ev a u y z) (Ev.bind (port_ev a u x z) (Ev.bind (port_ev a u 0 u) ?_))
      have e1 : portS a u x y = (a * y / u - a * x / u, 0) := if_neg (by unfold badP; omega)
      have e2 : portS a u y z = (a * z / u - a * y / u, 0) := if_neg (by unfold badP; omega)
      have e3 : portS a u x z = (a * z / u - a * x / u, 0) := if_neg (by unfold badP; omega)
      have e4 : portS a u 0 u = (a, 0) := by
        have : portS a u 0 u = (a * u / u - a * 0 / u, 0) := if_neg (by unfold badP; omega)
        rw [this, Int.mul_ediv_cancel _ (by omega), Int.mul_zero, Int.zero_ediv, Int.sub_zero]
      rw [e1, e2, e3, e4]
      have q1 := quot_le (a := a) (n := y) (u := u) (by omega) (by omega) (by omega) (by omega)
      have q2 := quot_le (a := a) (n := x) (u := u) (by omega) (by omega) (by omega) (by omega)
      have q3 := quot_le (a := a) (n := z) (u := u) (by omega) (by omega) (by omega) (by omega)
      refine Ev.pos rfl (Ev.pos rfl (Ev.pos rfl (Ev.pos rfl (Ev.pos ?_ (Ev.pos rfl aw)))))
      dsimp only
      rw [wrap64_of (by omega) (by omega)]
      omega
  unfold customslaw27_LatentPortion.f
  refine Ev.ite (fun c => j0 a0 a1 a2 a3 a4 a5 (fun h => by rw [c] at h; exact absurd h (by decide))) (fun c => ?_)
  obtain ⟨a, ea, g0, g1⟩ := within_ex a0 1000000000001 (i64_of_wf h0) (by decide) (by decide)
  obtain ⟨v, ev, g2, g3⟩ := within_ex a1 1000000000 (i64_of_wf h1) (by decide) (by decide)
  rw [ea]
  refine Ev.bind (a := a) (Ev.now _) ?_
  rw [ev]
  refine Ev.bind (a := v) (Ev.now _) ?_
  have w1 : wrap64 (1 + v) = 1 + v := wrap64_of (by omega) (by omega)
  have w2 : wrap64 (1 + v + 1) = 1 + v + 1 := wrap64_of (by omega) (by omega)
  simp only [w1, w2]
  clear w1 w2
  obtain ⟨x, ex, g4, g5⟩ := within_ex a2 (1 + v + 1) (i64_of_wf h2) (by omega) (by omega)
  rw [ex]
  refine Ev.bind (a := x) (Ev.now _) ?_
  have w3 : wrap64 (1 + v - x) = 1 + v - x := wrap64_of (by omega) (by omega)
  have w4 : wrap64 (1 + v - x + 1) = 1 + v - x + 1 := wrap64_of (by omega) (by omega)
  simp only [w3, w4]
  clear w3 w4
  obtain ⟨y, ey, g6, g7⟩ := within_ex a3 (1 + v - x + 1) (i64_of_wf h3) (by omega) (by omega)
  rw [ey]
  refine Ev.bind (a := y) (Ev.now _) ?_
  have w5 : wrap64 (x + y) = x + y := wrap64_of (by omega) (by omega)
  have w6 : wrap64 (1 + v - (x + y)) = 1 + v - (x + y) := wrap64_of (by omega) (by omega)
  have w7 : wrap64 (1 + v - (x + y) + 1) = 1 + v - (x + y) + 1 := wrap64_of (by omega) (by omega)
  simp only [w5, w6, w7]
  clear w5 w6 w7
  obtain ⟨z, ez, g8, g9⟩ := within_ex a4 (1 + v - (x + y) + 1) (i64_of_wf h4) (by omega) (by omega)
  rw [ez]
  refine Ev.bind (a := z) (Ev.now _) ?_
  have w8 : wrap64 (x + y + z) = x + y + z := wrap64_of (by omega) (by omega)
  simp only [w8]
  clear w8
  exact j0 a (1 + v) x (x + y) (x + y + z) a5 (fun _ => by omega)
end Go.Proofs.Ythbkooonlhldnaa.Pure
end
