/- Texts of this session joined by a small program: plain Lean functions with the answers of Go functions of this seat, proofs that the machine's calls come to them, and plain laws over them that the claim CurrencyLater uses. -/
import Derived.Test.YtpmdlhncfggjkaaProg
import Derived.Maps.Own
import Derived.Maps.OwnOps
import Derived.Maps.OwnSet
import Derived.Laws.Externs
import Derived.WalkLawsBesides
import Derived.Deep.RegionLaw
import Derived.IntWalk
import Derived.Below
import Derived.Deep.Draws
import Derived.Deep.AppendLies
import Derived.Maps.AppendAt
import Derived.OwnWalk
import Derived.Laws.BytesArg
import Derived.Laws.MakeOwn
import Derived.Laws.OwnMore
import Derived.Deep.OwnRows
import Derived.Tactics
import Derived.Lib.ConvBytes
import Derived.Laws.Slices
import Derived.WalkKit
import Derived.KernelRfl
import Derived.RowKit3
import Derived.Deep.LoopGhost
import Derived.Deep.QuietTactic
import Derived.BigQuiet
import Derived.WideLaws
import Derived.Deep.DeepCutAuto
import Derived.Deep.CutBlock
import Derived.Deep.RegionHeld3
import Derived.Laws.Rows
import Derived.Lib.AppendStr
import Derived.ArgAppend
import Derived.Laws.IdiomCopy
import Derived.OrdersHeld
import Derived.Laws.BitsLemmas
import Derived.RowKit
import Derived.Test.YtpmdlhncfggjkaaWWords
import Derived.Test.YtpmdlhncfggjkaaWLast
import Derived.Test.YtpmdlhncfggjkaaWTab
import Derived.Test.YtpmdlhncfggjkaaWFour
import Derived.Test.YtpmdlhncfggjkaaWQPut
import Derived.Test.YtpmdlhncfggjkaaWApart
import Derived.Test.YtpmdlhncfggjkaaWArr
import Derived.Test.YtpmdlhncfggjkaaWZeros
import Derived.Test.YtpmdlhncfggjkaaWFoot
import Derived.Test.YtpmdlhncfggjkaaWKept
import Derived.Test.YtpmdlhncfggjkaaWShare
import Derived.Test.YtpmdlhncfggjkaaWN
import Derived.Test.YtpmdlhncfggjkaaWFootNe
import Derived.Test.YtpmdlhncfggjkaaWAt
import Derived.Test.YtpmdlhncfggjkaaWEqStruct
import Derived.Test.YtpmdlhncfggjkaaWRepsOne
import Derived.Test.YtpmdlhncfggjkaaWInv
import Derived.Test.YtpmdlhncfggjkaaWInvWords
import Derived.Test.YtpmdlhncfggjkaaWGuard
import Derived.Test.YtpmdlhncfggjkaaWNEv
import Derived.Test.YtpmdlhncfggjkaaWMore
import Derived.Laws.Bits64
import Derived.Sort.Walk0
import Derived.Test.YtpmdlhncfggjkaaMCurrencyLater3
section
namespace Go.Proofs.Ytpmdlhncfggjkaa.PX
open Go.RowKit Go.Proofs.YtpmdlhncfggjkaaW.PrintWords Go.Proofs.YtpmdlhncfggjkaaW.PrintLast Go.Proofs.YtpmdlhncfggjkaaW.PrintMore
attribute [local go_sem] max2_int min2_int max_two min_two max_three min_three max_four min_four   -- for this text's walks alone
set_option linter.unusedVariables false
set_option linter.unusedSimpArgs false

/-! ### customsref04_Table: function 12 -/
mutual
def customsref04_Table.l0 : Nat → List (S25) → Int → Option (Int)
  | 0, _, _ => none
  | k + 1, x0, x3 => if x3 < (x0.length : Int) then (if 0 ≤ x3 then ((customsref04_currency.f k ((rd_T25 x0 x3).f0)).bind fun t113 => (if t113 = true then ((customsref04_Day.f ((rd_T25 x0 x3).f1)).bind fun t114 => (if t114 = true then (if ((rd_T25 x0 x3).f2) < 1 then (customsref04_Table.j1 k x0 x3 true ((rd_T25 x0 x3).f0) ((rd_T25 x0 x3).f1) ((rd_T25 x0 x3).f2)) else (customsref04_Table.j1 k x0 x3 (decide (((rd_T25 x0 x3).f2) > 1000000000)) ((rd_T25 x0 x3).f0) ((rd_T25 x0 x3).f1) ((rd_T25 x0 x3).f2))) else (customsref04_Table.j1 k x0 x3 true ((rd_T25 x0 x3).f0) ((rd_T25 x0 x3).f1) ((rd_T25 x0 x3).f2)))) else (some 1))) else (none)) else (some 0)
def customsref04_Table.j1 : Nat → List (S25) → Int → Bool → ByteArray → Int → Int → Option (Int)
  | 0, _, _, _, _, _, _ => none
  | k + 1, x0, x3, x23, x113000, x113001, x113002 => if x23 = true then (some 2) else (if x3 > 0 then (if 0 ≤ (wrap64 (x3 - 1)) then (if (wrap64 (x3 - 1)) < (x0.length : Int) then (if (Op.bytesLess x113000.toList (((rd_T25 x0 (wrap64 (x3 - 1))).f0).toList)) = true then (some 9) else (if x113000.toList = ((rd_T25 x0 (wrap64 (x3 - 1))).f0).toList then (if x113001 ≤ ((rd_T25 x0 (wrap64 (x3 - 1))).f1) then (some 9) else (customsref04_Table.l0 k x0 (wrap64 (x3 + 1)))) else (customsref04_Table.l0 k x0 (wrap64 (x3 + 1))))) else (none)) else (none)) else (customsref04_Table.l0 k x0 (wrap64 (x3 + 1))))
end
def customsref04_Table.f (k : Nat) (l0 : List (S25)) : Option (Int) := if (l0.length : Int) > 1000 then (some 8) else (customsref04_Table.l0 k l0 0)
set_option maxHeartbeats 8000000 in
set_option maxRecDepth 100000 in
theorem customsref04_Table.calls (k : Nat) (A0 : Option Addr) (c0 : Nat) (l0 : List (S25)) (r : Int) (w : World) (hr0 : Kd.C k25 w A0 l0.length l0) (hc0 : l0.length ≤ c0) (h : customsref04_Table.f k l0 = some r) :
    Calls Try.prog 12 #[.slice A0 l0.length c0] w fun e w' => e = .returned (.int .i64 r) ∧ Below w.heap.size w w' := by
  have hu25 := Try.underlying25
  have HR0 := Aside0.mk hr0
  have HC0 := Aside0.mk hc0
  clear hr0 hc0
  have HB := Aside0.mk (Below.refl w.heap.size w)
  have H : (if (l0.length : Int) > 1000 then (some 8) else (customsref04_Table.l0 k l0 0)) = some r := h
  clear h
  by_cases c2 : (l0.length : Int) > 1000
  · rw [if_pos c2] at H
    have c2b0 : decide (1000 < (l0.length : Int)) = true := decide_eq_true c2
    have c2b1 : decide (1000 < l0.length) = true := decide_eq_true (by omega)
    clear c2
    obtain rfl := Option.some.inj H
    go_enter Try.func12, Try.ntmps12
    go_wp2
    repeat (go_quiet (fail); try go_wp2)
    go_ret
    exact ⟨by first | rfl | (simp [errW_none, errW_some] <;> rfl) | (simp [*, errW_none, errW_some] <;> rfl) | (simp (disch := first | assumption | omega) only [Int.tdiv_eq_ediv_of_nonneg, Int.tmod_eq_emod_of_nonneg]; rfl), by repeat (first | (with_reducible first | exact HB.out | apply below_alloc | apply pw_below_drewN | apply below_drew1) | exact HB.out)⟩
  · rw [if_neg c2] at H
    have c2b0 : decide (1000 < (l0.length : Int)) = false := decide_eq_false c2
    have c2b1 : decide (1000 < l0.length) = false := decide_eq_false (by omega)
    clear c2
    have H' := Aside0.mk H
    clear H
    go_enter Try.func12, Try.ntmps12
    go_wp2
    repeat (go_quiet (fail); try go_wp2)
    go_loopg [3] k (fun kq v3 w' => ∃ (x3_1 : Int), v3 = .int .i64 x3_1 ∧ Aside0 (customsref04_Table.l0 kq l0 x3_1 = some r) ∧ Aside0 (kq ≤ k) ∧ Aside0 (Below w.heap.size w w'))
    case atStart => exact ⟨(0), (by first | rfl | (simp; done) | (simp [*]; done)), H', ⟨Nat.le_refl _⟩, ⟨by repeat (first | (with_reducible first | exact HB.out | apply below_alloc | apply pw_below_drewN | apply below_drew1) | exact HB.out)⟩⟩
    case round =>
      clear H'
      try clear c1
      try clear c2
      try clear c2b0
      try clear c2b1
      try clear p2
      obtain ⟨x3_1, rfl, HA, HK1, HB⟩ := hrel
      cases gk with
      | zero => exact absurd HA.out (by simp [customsref04_Table.l0])
      | succ k1 =>
        have H := HA.out
        clear HA
        simp only [customsref04_Table.l0] at H
        by_cases c3 : x3_1 < (l0.length : Int)
        · rw [if_pos c3] at H
          have c3b0 : decide (x3_1 < (l0.length : Int)) = true := decide_eq_true c3
          clear c3
          by_cases c4 : 0 ≤ x3_1
          · rw [if_pos c4] at H
            have c4b0 : decide (0 ≤ x3_1) = true := decide_eq_true c4
            clear c4
            replace H := Option.bind_eq_some_iff.mp H
            obtain ⟨t113, A50, H⟩ := H
            replace H : (if t113 = true then ((customsref04_Day.f ((rd_T25 l0 x3_1).f1)).bind fun t114 => (if t114 = true then (if ((rd_T25 l0 x3_1).f2) < 1 then (customsref04_Table.j1 k1 l0 x3_1 true ((rd_T25 l0 x3_1).f0) ((rd_T25 l0 x3_1).f1) ((rd_T25 l0 x3_1).f2)) else (customsref04_Table.j1 k1 l0 x3_1 (decide (((rd_T25 l0 x3_1).f2) > 1000000000)) ((rd_T25 l0 x3_1).f0) ((rd_T25 l0 x3_1).f1) ((rd_T25 l0 x3_1).f2))) else (customsref04_Table.j1 k1 l0 x3_1 true ((rd_T25 l0 x3_1).f0) ((rd_T25 l0 x3_1).f1) ((rd_T25 l0 x3_1).f2)))) else (some 1)) = some r := H
            have A5 := Aside0.mk A50
            clear A50
            by_cases c6 : t113 = true
            · subst c6
              have H1 : ((customsref04_Day.f ((rd_T25 l0 x3_1).f1)).bind fun t114 => (if t114 = true then (if ((rd_T25 l0 x3_1).f2) < 1 then (customsref04_Table.j1 k1 l0 x3_1 true ((rd_T25 l0 x3_1).f0) ((rd_T25 l0 x3_1).f1) ((rd_T25 l0 x3_1).f2)) else (customsref04_Table.j1 k1 l0 x3_1 (decide (((rd_T25 l0 x3_1).f2) > 1000000000)) ((rd_T25 l0 x3_1).f0) ((rd_T25 l0 x3_1).f1) ((rd_T25 l0 x3_1).f2))) else (customsref04_Table.j1 k1 l0 x3_1 true ((rd_T25 l0 x3_1).f0) ((rd_T25 l0 x3_1).f1) ((rd_T25 l0 x3_1).f2)))) = some r := by rw [if_pos rfl] at H; exact H
              clear H
              have H := H1
              clear H1
              have HC7 := Aside0.mk H
              clear H
              have p111 : 0 ≤ (x3_1 : Int) := of_decide_eq_true (by first | (with_reducible assumption) | assumption)
              have q111 : x3_1 < (l0.length : Int) := of_decide_eq_true (by first | (with_reducible assumption) | assumption)
              obtain ⟨ad111, e111, hx111_0, hx111_1, hx111_2⟩ := at_T25 HR0.out x3_1 p111 q111
              cases e111
              replace hx111_0 := (HB.out.cell (World.block_lt_of_cell? w _ hx111_0)).trans hx111_0
              replace hx111_1 := (HB.out.cell (World.block_lt_of_cell? w _ hx111_1)).trans hx111_1
              replace hx111_2 := (HB.out.cell (World.block_lt_of_cell? w _ hx111_2)).trans hx111_2
              replace p111 := eq_true p111
              replace q111 := eq_true q111
              go_upto_region 9 with (first | ((with_reducible refine gate_dst (N := 4) rfl ?_); refine box_event ?hg (N := 4) ?hd (cs := #[.string (⟨#[]⟩ : ByteArray), .int .i64 0, .int .i64 0]) (t := 25) ?hr ?_; (case hd => rfl); (case hg => rfl); (case hr => first | (go_simp; done) | (go_simp; rfl)); intro gb112 hg w8 hbox hb; have n0_ := Aside0.mk (below_step (by repeat (first | (with_reducible first | exact HB.out | apply below_alloc | apply pw_below_drewN | apply below_drew1) | exact HB.out)) hb); have n1_ := Aside0.mk (hbox); have n2_ := Aside0.mk ((by rw [hg]; exact (below_size (by repeat (first | (with_reducible first | exact HB.out | apply below_alloc | apply pw_below_drewN | apply below_drew1) | exact HB.out))) : w.heap.size ≤ gb112)); have n3_ := Aside0.mk ((by rw [hg]; exact (below_size (by repeat (first | (with_reducible first | exact HB.out | apply below_alloc | apply pw_below_drewN | apply below_drew1) | exact HB.out))) : w.heap.size ≤ gb112)); clear HB; have HB := n0_; have BK112 := n1_; have GW112 := n2_; have GE112 := n3_; clear n0_ n1_ n2_ n3_; clear hb hbox hg; have hcz9_0 : w8.cell? ⟨gb112, 0, none⟩ = some (.string (⟨#[]⟩ : ByteArray)) := (blk_cell BK112.out 0).trans rfl; have hcz9_1 : w8.cell? ⟨gb112, 1, none⟩ = some (.int .i64 0) := (blk_cell BK112.out 1).trans rfl; have hcz9_2 : w8.cell? ⟨gb112, 2, none⟩ = some (.int .i64 0) := (blk_cell BK112.out 2).trans rfl; have hfz9_0 := blk_frozen BK112.out 0; have hfz9_1 := blk_frozen BK112.out 1; have hfz9_2 := blk_frozen BK112.out 2) | (go_at_call 26; (with_reducible refine (customsref04_currency.calls k1 ((rd_T25 l0 x3_1).f0) true _ A5.out).mono ?_); rintro e w' ⟨rfl, ⟨nd, rfl⟩⟩; (try first | exact ⟨rfl, _, World.drewN_drewN _ _ _⟩ | exact ⟨rfl, _, Eq.trans (World.drewN_drewN _ _ _) (congrArg (World.drewN _) (Nat.add_assoc _ _ _))⟩)))
              repeat (go_quiet (first | ((with_reducible refine gate_dst (N := 4) rfl ?_); refine box_event ?hg (N := 4) ?hd (cs := #[.string (⟨#[]⟩ : ByteArray), .int .i64 0, .int .i64 0]) (t := 25) ?hr ?_; (case hd => rfl); (case hg => rfl); (case hr => first | (go_simp; done) | (go_simp; rfl)); intro gb112 hg w8 hbox hb; have n0_ := Aside0.mk (below_step (by repeat (first | (with_reducible first | exact HB.out | apply below_alloc | apply pw_below_drewN | apply below_drew1) | exact HB.out)) hb); have n1_ := Aside0.mk (hbox); have n2_ := Aside0.mk ((by rw [hg]; exact (below_size (by repeat (first | (with_reducible first | exact HB.out | apply below_alloc | apply pw_below_drewN | apply below_drew1) | exact HB.out))) : w.heap.size ≤ gb112)); have n3_ := Aside0.mk ((by rw [hg]; exact (below_size (by repeat (first | (with_reducible first | exact HB.out | apply below_alloc | apply pw_below_drewN | apply below_drew1) | exact HB.out))) : w.heap.size ≤ gb112)); clear HB; have HB := n0_; have BK112 := n1_; have GW112 := n2_; have GE112 := n3_; clear n0_ n1_ n2_ n3_; clear hb hbox hg; have hcz9_0 : w8.cell? ⟨gb112, 0, none⟩ = some (.string (⟨#[]⟩ : ByteArray)) := (blk_cell BK112.out 0).trans rfl; have hcz9_1 : w8.cell? ⟨gb112, 1, none⟩ = some (.int .i64 0) := (blk_cell BK112.out 1).trans rfl; have hcz9_2 : w8.cell? ⟨gb112, 2, none⟩ = some (.int .i64 0) := (blk_cell BK112.out 2).trans rfl; have hfz9_0 := blk_frozen BK112.out 0; have hfz9_1 := blk_frozen BK112.out 1; have hfz9_2 := blk_frozen BK112.out 2) | (go_at_call 26; (with_reducible refine (customsref04_currency.calls k1 ((rd_T25 l0 x3_1).f0) true _ A5.out).mono ?_); rintro e w' ⟨rfl, ⟨nd, rfl⟩⟩; (try first | exact ⟨rfl, _, World.drewN_drewN _ _ _⟩ | exact ⟨rfl, _, Eq.trans (World.drewN_drewN _ _ _) (congrArg (World.drewN _) (Nat.add_assoc _ _ _))⟩))); go_upto_region 9 with (first | ((with_reducible refine gate_dst (N := 4) rfl ?_); refine box_event ?hg (N := 4) ?hd (cs := #[.string (⟨#[]⟩ : ByteArray), .int .i64 0, .int .i64 0]) (t := 25) ?hr ?_; (case hd => rfl); (case hg => rfl); (case hr => first | (go_simp; done) | (go_simp; rfl)); intro gb112 hg w8 hbox hb; have n0_ := Aside0.mk (below_step (by repeat (first | (with_reducible first | exact HB.out | apply below_alloc | apply pw_below_drewN | apply below_drew1) | exact HB.out)) hb); have n1_ := Aside0.mk (hbox); have n2_ := Aside0.mk ((by rw [hg]; exact (below_size (by repeat (first | (with_reducible first | exact HB.out | apply below_alloc | apply pw_below_drewN | apply below_drew1) | exact HB.out))) : w.heap.size ≤ gb112)); have n3_ := Aside0.mk ((by rw [hg]; exact (below_size (by repeat (first | (with_reducible first | exact HB.out | apply below_alloc | apply pw_below_drewN | apply below_drew1) | exact HB.out))) : w.heap.size ≤ gb112)); clear HB; have HB := n0_; have BK112 := n1_; have GW112 := n2_; have GE112 := n3_; clear n0_ n1_ n2_ n3_; clear hb hbox hg; have hcz9_0 : w8.cell? ⟨gb112, 0, none⟩ = some (.string (⟨#[]⟩ : ByteArray)) := (blk_cell BK112.out 0).trans rfl; have hcz9_1 : w8.cell? ⟨gb112, 1, none⟩ = some (.int .i64 0) := (blk_cell BK112.out 1).trans rfl; have hcz9_2 : w8.cell? ⟨gb112, 2, none⟩ = some (.int .i64 0) := (blk_cell BK112.out 2).trans rfl; have hfz9_0 := blk_frozen BK112.out 0; have hfz9_1 := blk_frozen BK112.out 1; have hfz9_2 := blk_frozen BK112.out 2) | (go_at_call 26; (with_reducible refine (customsref04_currency.calls k1 ((rd_T25 l0 x3_1).f0) true _ A5.out).mono ?_); rintro e w' ⟨rfl, ⟨nd, rfl⟩⟩; (try first | exact ⟨rfl, _, World.drewN_drewN _ _ _⟩ | exact ⟨rfl, _, Eq.trans (World.drewN_drewN _ _ _) (congrArg (World.drewN _) (Nat.add_assoc _ _ _))⟩))))
              (try simp only [Act.put, List.setIfInBounds_toArray, List.set_cons_zero, List.set_cons_succ])
              go_cut [23] (fun v23 wc => ∃ (kq : Nat) (x23_6 : Bool), v23 = .bool x23_6 ∧ Aside0 (customsref04_Table.j1 kq l0 x3_1 x23_6 ((rd_T25 l0 x3_1).f0) ((rd_T25 l0 x3_1).f1) ((rd_T25 l0 x3_1).f2) = some r) ∧ Aside0 (kq ≤ k1) ∧ Aside0 (wc.heap[gb112]? = some (.cells #[.string ((rd_T25 l0 x3_1).f0), .int .i64 ((rd_T25 l0 x3_1).f1), .int .i64 ((rd_T25 l0 x3_1).f2)] 25 (0, 0))) ∧ Aside0 (Below w.heap.size w wc))
              case first =>
                have H := HC7.out
                clear HC7
                replace H := Option.bind_eq_some_iff.mp H
                obtain ⟨t114, A100, H⟩ := H
                replace H : (if t114 = true then (if ((rd_T25 l0 x3_1).f2) < 1 then (customsref04_Table.j1 k1 l0 x3_1 true ((rd_T25 l0 x3_1).f0) ((rd_T25 l0 x3_1).f1) ((rd_T25 l0 x3_1).f2)) else (customsref04_Table.j1 k1 l0 x3_1 (decide (((rd_T25 l0 x3_1).f2) > 1000000000)) ((rd_T25 l0 x3_1).f0) ((rd_T25 l0 x3_1).f1) ((rd_T25 l0 x3_1).f2))) else (customsref04_Table.j1 k1 l0 x3_1 true ((rd_T25 l0 x3_1).f0) ((rd_T25 l0 x3_1).f1) ((rd_T25 l0 x3_1).f2))) = some r := H
                have A10 := Aside0.mk A100
                clear A100
                by_cases c11 : t114 = true
                · subst c11
                  have H1 : (if ((rd_T25 l0 x3_1).f2) < 1 then (customsref04_Table.j1 k1 l0 x3_1 true ((rd_T25 l0 x3_1).f0) ((rd_T25 l0 x3_1).f1) ((rd_T25 l0 x3_1).f2)) else (customsref04_Table.j1 k1 l0 x3_1 (decide (((rd_T25 l0 x3_1).f2) > 1000000000)) ((rd_T25 l0 x3_1).f0) ((rd_T25 l0 x3_1).f1) ((rd_T25 l0 x3_1).f2))) = some r := by rw [if_pos rfl] at H; exact H
                  clear H
                  have H := H1
                  clear H1
                  by_cases c12 : ((rd_T25 l0 x3_1).f2) < 1
                  · rw [if_pos c12] at H
                    have c12b0 : decide (((rd_T25 l0 x3_1).f2) < 1) = true := decide_eq_true c12
                    clear c12
                    (first | rw [c12b0] | (simp only [i64_w, i32_w]; rw [c12b0]) | skip)
                    have H' := Aside0.mk H
                    clear H
                    have hcz13_0 : w8.cell? ⟨gb112, 0, none⟩ = some (.string (⟨#[]⟩ : ByteArray)) := (blk_cell BK112.out 0).trans rfl
                    have hcz13_1 : w8.cell? ⟨gb112, 1, none⟩ = some (.int .i64 0) := (blk_cell BK112.out 1).trans rfl
                    have hcz13_2 : w8.cell? ⟨gb112, 2, none⟩ = some (.int .i64 0) := (blk_cell BK112.out 2).trans rfl
                    have hfz13_0 := blk_frozen BK112.out 0
                    have hfz13_1 := blk_frozen BK112.out 1
                    have hfz13_2 := blk_frozen BK112.out 2
                    go_wp2_with (first | (go_at_call 27; (with_reducible refine (customsref04_Day.calls ((rd_T25 l0 x3_1).f1) true _ A10.out).mono ?_); rintro e w' ⟨rfl, ⟨nd, rfl⟩⟩; (try first | exact ⟨rfl, _, World.drewN_drewN _ _ _⟩ | exact ⟨rfl, _, Eq.trans (World.drewN_drewN _ _ _) (congrArg (World.drewN _) (Nat.add_assoc _ _ _))⟩)))
                    repeat (go_quiet (first | (go_at_call 27; (with_reducible refine (customsref04_Day.calls ((rd_T25 l0 x3_1).f1) true _ A10.out).mono ?_); rintro e w' ⟨rfl, ⟨nd, rfl⟩⟩; (try first | exact ⟨rfl, _, World.drewN_drewN _ _ _⟩ | exact ⟨rfl, _, Eq.trans (World.drewN_drewN _ _ _) (congrArg (World.drewN _) (Nat.add_assoc _ _ _))⟩))); try go_wp2_with (first | (go_at_call 27; (with_reducible refine (customsref04_Day.calls ((rd_T25 l0 x3_1).f1) true _ A10.out).mono ?_); rintro e w' ⟨rfl, ⟨nd, rfl⟩⟩; (try first | exact ⟨rfl, _, World.drewN_drewN _ _ _⟩ | exact ⟨rfl, _, Eq.trans (World.drewN_drewN _ _ _) (congrArg (World.drewN _) (Nat.add_assoc _ _ _))⟩))))
                    go_meet
                    case rel => exact ⟨_, (true), (by first | rfl | (simp; done) | (simp [*]; done)), H', ⟨by have := HK1.out; first | omega | exact Nat.le_refl _⟩, ⟨by (with_reducible repeat (first | refine blk_drewN ?_ _ | refine blk_drew ?_ | refine blk_alloc ?_ _)); refine blk_put (cs := #[.string ((rd_T25 l0 x3_1).f0), .int .i64 ((rd_T25 l0 x3_1).f1), .int .i64 0]) ?_ 2 _ rfl; (with_reducible repeat (first | refine blk_drewN ?_ _ | refine blk_drew ?_ | refine blk_alloc ?_ _)); refine blk_put (cs := #[.string ((rd_T25 l0 x3_1).f0), .int .i64 0, .int .i64 0]) ?_ 1 _ rfl; (with_reducible repeat (first | refine blk_drewN ?_ _ | refine blk_drew ?_ | refine blk_alloc ?_ _)); refine blk_put (cs := #[.string (⟨#[]⟩ : ByteArray), .int .i64 0, .int .i64 0]) ?_ 0 _ rfl; (with_reducible repeat (first | refine blk_drewN ?_ _ | refine blk_drew ?_ | refine blk_alloc ?_ _)); exact BK112.out⟩, ⟨by repeat (first | (with_reducible first | exact HB.out | apply below_alloc | apply pw_below_drewN | apply below_drew1 | refine below_set ?_ GE112.out) | exact HB.out)⟩⟩
                  · rw [if_neg c12] at H
                    have c12b0 : decide (((rd_T25 l0 x3_1).f2) < 1) = false := decide_eq_false c12
                    clear c12
                    (first | rw [c12b0] | (simp only [i64_w, i32_w]; rw [c12b0]) | skip)
                    have H' := Aside0.mk H
                    clear H
                    have hcz14_0 : w8.cell? ⟨gb112, 0, none⟩ = some (.string (⟨#[]⟩ : ByteArray)) := (blk_cell BK112.out 0).trans rfl
                    have hcz14_1 : w8.cell? ⟨gb112, 1, none⟩ = some (.int .i64 0) := (blk_cell BK112.out 1).trans rfl
                    have hcz14_2 : w8.cell? ⟨gb112, 2, none⟩ = some (.int .i64 0) := (blk_cell BK112.out 2).trans rfl
                    have hfz14_0 := blk_frozen BK112.out 0
                    have hfz14_1 := blk_frozen BK112.out 1
                    have hfz14_2 := blk_frozen BK112.out 2
                    go_wp2_with (first | (go_at_call 27; (with_reducible refine (customsref04_Day.calls ((rd_T25 l0 x3_1).f1) true _ A10.out).mono ?_); rintro e w' ⟨rfl, ⟨nd, rfl⟩⟩; (try first | exact ⟨rfl, _, World.drewN_drewN _ _ _⟩ | exact ⟨rfl, _, Eq.trans (World.drewN_drewN _ _ _) (congrArg (World.drewN _) (Nat.add_assoc _ _ _))⟩)))
                    repeat (go_quiet (first | (go_at_call 27; (with_reducible refine (customsref04_Day.calls ((rd_T25 l0 x3_1).f1) true _ A10.out).mono ?_); rintro e w' ⟨rfl, ⟨nd, rfl⟩⟩; (try first | exact ⟨rfl, _, World.drewN_drewN _ _ _⟩ | exact ⟨rfl, _, Eq.trans (World.drewN_drewN _ _ _) (congrArg (World.drewN _) (Nat.add_assoc _ _ _))⟩))); try go_wp2_with (first | (go_at_call 27; (with_reducible refine (customsref04_Day.calls ((rd_T25 l0 x3_1).f1) true _ A10.out).mono ?_); rintro e w' ⟨rfl, ⟨nd, rfl⟩⟩; (try first | exact ⟨rfl, _, World.drewN_drewN _ _ _⟩ | exact ⟨rfl, _, Eq.trans (World.drewN_drewN _ _ _) (congrArg (World.drewN _) (Nat.add_assoc _ _ _))⟩))))
                    go_meet
                    case rel => exact ⟨_, (decide (((rd_T25 l0 x3_1).f2) > 1000000000)), (by first | rfl | (simp; done) | (simp [*]; done)), H', ⟨by have := HK1.out; first | omega | exact Nat.le_refl _⟩, ⟨by (with_reducible repeat (first | refine blk_drewN ?_ _ | refine blk_drew ?_ | refine blk_alloc ?_ _)); refine blk_put (cs := #[.string ((rd_T25 l0 x3_1).f0), .int .i64 ((rd_T25 l0 x3_1).f1), .int .i64 0]) ?_ 2 _ rfl; (with_reducible repeat (first | refine blk_drewN ?_ _ | refine blk_drew ?_ | refine blk_alloc ?_ _)); refine blk_put (cs := #[.string ((rd_T25 l0 x3_1).f0), .int .i64 0, .int .i64 0]) ?_ 1 _ rfl; (with_reducible repeat (first | refine blk_drewN ?_ _ | refine blk_drew ?_ | refine blk_alloc ?_ _)); refine blk_put (cs := #[.string (⟨#[]⟩ : ByteArray), .int .i64 0, .int .i64 0]) ?_ 0 _ rfl; (with_reducible repeat (first | refine blk_drewN ?_ _ | refine blk_drew ?_ | refine blk_alloc ?_ _)); exact BK112.out⟩, ⟨by repeat (first | (with_reducible first | exact HB.out | apply below_alloc | apply pw_below_drewN | apply below_drew1 | refine below_set ?_ GE112.out) | exact HB.out)⟩⟩
                · replace c11 := Bool.eq_false_iff.mpr c11
                  subst c11
                  have H1 : (customsref04_Table.j1 k1 l0 x3_1 true ((rd_T25 l0 x3_1).f0) ((rd_T25 l0 x3_1).f1) ((rd_T25 l0 x3_1).f2)) = some r := by rw [if_neg (show ¬ (false = true) by decide)] at H; exact H
                  clear H
                  have H := H1
                  clear H1
                  have H' := Aside0.mk H
                  clear H
                  have hcz15_0 : w8.cell? ⟨gb112, 0, none⟩ = some (.string (⟨#[]⟩ : ByteArray)) := (blk_cell BK112.out 0).trans rfl
                  have hcz15_1 : w8.cell? ⟨gb112, 1, none⟩ = some (.int .i64 0) := (blk_cell BK112.out 1).trans rfl
                  have hcz15_2 : w8.cell? ⟨gb112, 2, none⟩ = some (.int .i64 0) := (blk_cell BK112.out 2).trans rfl
                  have hfz15_0 := blk_frozen BK112.out 0
                  have hfz15_1 := blk_frozen BK112.out 1
                  have hfz15_2 := blk_frozen BK112.out 2
                  go_wp2_with (first | (go_at_call 27; (with_reducible refine (customsref04_Day.calls ((rd_T25 l0 x3_1).f1) false _ A10.out).mono ?_); rintro e w' ⟨rfl, ⟨nd, rfl⟩⟩; (try first | exact ⟨rfl, _, World.drewN_drewN _ _ _⟩ | exact ⟨rfl, _, Eq.trans (World.drewN_drewN _ _ _) (congrArg (World.drewN _) (Nat.add_assoc _ _ _))⟩)))
                  repeat (go_quiet (first | (go_at_call 27; (with_reducible refine (customsref04_Day.calls ((rd_T25 l0 x3_1).f1) false _ A10.out).mono ?_); rintro e w' ⟨rfl, ⟨nd, rfl⟩⟩; (try first | exact ⟨rfl, _, World.drewN_drewN _ _ _⟩ | exact ⟨rfl, _, Eq.trans (World.drewN_drewN _ _ _) (congrArg (World.drewN _) (Nat.add_assoc _ _ _))⟩))); try go_wp2_with (first | (go_at_call 27; (with_reducible refine (customsref04_Day.calls ((rd_T25 l0 x3_1).f1) false _ A10.out).mono ?_); rintro e w' ⟨rfl, ⟨nd, rfl⟩⟩; (try first | exact ⟨rfl, _, World.drewN_drewN _ _ _⟩ | exact ⟨rfl, _, Eq.trans (World.drewN_drewN _ _ _) (congrArg (World.drewN _) (Nat.add_assoc _ _ _))⟩))))
                  go_meet
                  case rel => exact ⟨_, (true), (by first | rfl | (simp; done) | (simp [*]; done)), H', ⟨by have := HK1.out; first | omega | exact Nat.le_refl _⟩, ⟨by (with_reducible repeat (first | refine blk_drewN ?_ _ | refine blk_drew ?_ | refine blk_alloc ?_ _)); refine blk_put (cs := #[.string ((rd_T25 l0 x3_1).f0), .int .i64 ((rd_T25 l0 x3_1).f1), .int .i64 0]) ?_ 2 _ rfl; (with_reducible repeat (first | refine blk_drewN ?_ _ | refine blk_drew ?_ | refine blk_alloc ?_ _)); refine blk_put (cs := #[.string ((rd_T25 l0 x3_1).f0), .int .i64 0, .int .i64 0]) ?_ 1 _ rfl; (with_reducible repeat (first | refine blk_drewN ?_ _ | refine blk_drew ?_ | refine blk_alloc ?_ _)); refine blk_put (cs := #[.string (⟨#[]⟩ : ByteArray), .int .i64 0, .int .i64 0]) ?_ 0 _ rfl; (with_reducible repeat (first | refine blk_drewN ?_ _ | refine blk_drew ?_ | refine blk_alloc ?_ _)); exact BK112.out⟩, ⟨by repeat (first | (with_reducible first | exact HB.out | apply below_alloc | apply pw_below_drewN | apply below_drew1 | refine below_set ?_ GE112.out) | exact HB.out)⟩⟩
              case rest =>
                clear HC7
                try clear c1
                try clear p1
                try clear q1
                try clear hx1
                try clear c2
                try clear c2b0
                try clear c2b1
                try clear p2
                try clear c3
                try clear c3b0
                try clear c4
                try clear c4b0
                try clear c6
                try clear c11
                try clear p11
                try clear q11
                try clear hx11
                try clear c12
                try clear c12b0
                try clear hcz13_0
                try clear hcz13_1
                try clear hcz13_2
                try clear hcz14_0
                try clear hcz14_1
                try clear hcz14_2
                try clear hcz15_0
                try clear hcz15_1
                try clear hcz15_2
                try clear hcz9_0
                try clear hcz9_1
                try clear hcz9_2
                try clear hfz13_0
                try clear hfz13_1
                try clear hfz13_2
                try clear hfz14_0
                try clear hfz14_1
                try clear hfz14_2
                try clear hfz15_0
                try clear hfz15_1
                try clear hfz15_2
                try clear hfz9_0
                try clear hfz9_1
                try clear hfz9_2
                try clear hx111_0
                try clear hx111_1
                try clear hx111_2
                try clear p111
                try clear p2
                try clear q111
                obtain ⟨kq, x23_6, rfl, HA, HJ6, BK112, HB⟩ := hcut
                cases kq with
                | zero => exact absurd HA.out (by simp [customsref04_Table.j1])
                | succ kj6 =>
                  have H := HA.out
                  clear HA
                  simp only [customsref04_Table.j1] at H
                  by_cases c16 : x23_6 = true
                  · subst c16
                    have H1 : (some 2) = some r := by rw [if_pos rfl] at H; exact H
                    clear H
                    have H := H1
                    clear H1
                    obtain rfl := Option.some.inj H
                    go_wp2
                    repeat (go_quiet (fail); try go_wp2)
                    go_ret
                    exact ⟨by first | rfl | (simp [errW_none, errW_some] <;> rfl) | (simp [*, errW_none, errW_some] <;> rfl) | (simp (disch := first | assumption | omega) only [Int.tdiv_eq_ediv_of_nonneg, Int.tmod_eq_emod_of_nonneg]; rfl), by repeat (first | (with_reducible first | exact HB.out | apply below_alloc | apply pw_below_drewN | apply below_drew1 | refine below_set ?_ GE112.out) | exact HB.out)⟩
                  · replace c16 := Bool.eq_false_iff.mpr c16
                    subst c16
                    have H1 : (if x3_1 > 0 then (if 0 ≤ (wrap64 (x3_1 - 1)) then (if (wrap64 (x3_1 - 1)) < (l0.length : Int) then (if (Op.bytesLess ((rd_T25 l0 x3_1).f0).toList (((rd_T25 l0 (wrap64 (x3_1 - 1))).f0).toList)) = true then (some 9) else (if ((rd_T25 l0 x3_1).f0).toList = ((rd_T25 l0 (wrap64 (x3_1 - 1))).f0).toList then (if ((rd_T25 l0 x3_1).f1) ≤ ((rd_T25 l0 (wrap64 (x3_1 - 1))).f1) then (some 9) else (customsref04_Table.l0 kj6 l0 (wrap64 (x3_1 + 1)))) else (customsref04_Table.l0 kj6 l0 (wrap64 (x3_1 + 1))))) else (none)) else (none)) else (customsref04_Table.l0 kj6 l0 (wrap64 (x3_1 + 1)))) = some r := by rw [if_neg (show ¬ (false = true) by decide)] at H; exact H
                    clear H
                    have H := H1
                    clear H1
                    by_cases c17 : x3_1 > 0
                    · rw [if_pos c17] at H
                      have c17b0 : decide (0 < x3_1) = true := decide_eq_true c17
                      clear c17
                      obtain ⟨ji18, hji18⟩ : ∃ j_ : Int, (wrap64 (x3_1 - 1)) = j_ := ⟨_, rfl⟩
                      replace H : (if 0 ≤ (ji18) then (if (ji18) < (l0.length : Int) then (if (Op.bytesLess ((rd_T25 l0 x3_1).f0).toList (((rd_T25 l0 (ji18)).f0).toList)) = true then (some 9) else (if ((rd_T25 l0 x3_1).f0).toList = ((rd_T25 l0 (ji18)).f0).toList then (if ((rd_T25 l0 x3_1).f1) ≤ ((rd_T25 l0 (ji18)).f1) then (some 9) else (customsref04_Table.l0 kj6 l0 (wrap64 (x3_1 + 1)))) else (customsref04_Table.l0 kj6 l0 (wrap64 (x3_1 + 1))))) else (none)) else (none)) = some r := by first | (rw [hji18] at H; exact H) | (simp only [hji18] at H ⊢; exact H)
                      have hji18w : (IntKind.i64.wrap (x3_1 - 1)) = ji18 := (i64_w _).trans hji18
                      by_cases c19 : 0 ≤ (ji18)
                      · rw [if_pos c19] at H
                        have c19b0 : decide (0 ≤ (ji18)) = true := decide_eq_true c19
                        clear c19
                        by_cases c20 : (ji18) < (l0.length : Int)
                        · rw [if_pos c20] at H
                          have c20b0 : decide ((ji18) < (l0.length : Int)) = true := decide_eq_true c20
                          clear c20
                          by_cases c21 : (Op.bytesLess ((rd_T25 l0 x3_1).f0).toList (((rd_T25 l0 (ji18)).f0).toList)) = true
                          · rw [if_pos c21] at H
                            have c21b0 : (Op.bytesLess ((rd_T25 l0 x3_1).f0).toList (((rd_T25 l0 (ji18)).f0).toList)) = true := c21
                            clear c21
                            obtain rfl := Option.some.inj H
                            have hcz22_0 : wc.cell? ⟨gb112, 0, none⟩ = some (.string ((rd_T25 l0 x3_1).f0)) := (blk_cell BK112.out 0).trans rfl
                            have hcz22_1 : wc.cell? ⟨gb112, 1, none⟩ = some (.int .i64 ((rd_T25 l0 x3_1).f1)) := (blk_cell BK112.out 1).trans rfl
                            have hcz22_2 : wc.cell? ⟨gb112, 2, none⟩ = some (.int .i64 ((rd_T25 l0 x3_1).f2)) := (blk_cell BK112.out 2).trans rfl
                            have hfz22_0 := blk_frozen BK112.out 0
                            have hfz22_1 := blk_frozen BK112.out 1
                            have hfz22_2 := blk_frozen BK112.out 2
                            have p115 : 0 ≤ ((ji18) : Int) := of_decide_eq_true (by first | (with_reducible assumption) | assumption)
                            have q115 : (ji18) < (l0.length : Int) := of_decide_eq_true (by first | (with_reducible assumption) | assumption)
                            obtain ⟨ad115, e115, hx115_0, hx115_1, hx115_2⟩ := at_T25 HR0.out (ji18) p115 q115
                            obtain rfl : ad111 = ad115 := (by injection e115)
                            replace hx115_0 := (HB.out.cell (World.block_lt_of_cell? w _ hx115_0)).trans hx115_0
                            replace hx115_1 := (HB.out.cell (World.block_lt_of_cell? w _ hx115_1)).trans hx115_1
                            replace hx115_2 := (HB.out.cell (World.block_lt_of_cell? w _ hx115_2)).trans hx115_2
                            replace p115 := eq_true p115
                            replace q115 := eq_true q115
                            go_wp2
                            repeat (go_quiet (fail); try go_wp2)
                            go_ret
                            exact ⟨by first | rfl | (simp [errW_none, errW_some] <;> rfl) | (simp only [← hji18]; first | rfl | (simp [errW_none, errW_some] <;> rfl)) | (simp [*, errW_none, errW_some] <;> rfl) | (simp (disch := first | assumption | omega) only [Int.tdiv_eq_ediv_of_nonneg, Int.tmod_eq_emod_of_nonneg]; rfl), by repeat (first | (with_reducible first | exact HB.out | apply below_alloc | apply pw_below_drewN | apply below_drew1 | refine below_set ?_ GE112.out) | exact HB.out)⟩
                          · rw [if_neg c21] at H
                            have c21b0 : (Op.bytesLess ((rd_T25 l0 x3_1).f0).toList (((rd_T25 l0 (ji18)).f0).toList)) = false := by simpa using c21
                            clear c21
                            by_cases c23 : ((rd_T25 l0 x3_1).f0).toList = ((rd_T25 l0 (ji18)).f0).toList
                            · rw [if_pos c23] at H
                              have c23b0 : (((rd_T25 l0 x3_1).f0).toList == ((rd_T25 l0 (ji18)).f0).toList) = true := beq_iff_eq.mpr c23
                              have c23b1 : (((rd_T25 l0 x3_1).f0).toList != ((rd_T25 l0 (ji18)).f0).toList) = false := bne_eq_false_iff_eq.mpr c23
                              clear c23
                              by_cases c24 : ((rd_T25 l0 x3_1).f1) ≤ ((rd_T25 l0 (ji18)).f1)
                              · rw [if_pos c24] at H
                                have c24b0 : decide (((rd_T25 l0 x3_1).f1) ≤ ((rd_T25 l0 (ji18)).f1)) = true := decide_eq_true c24
                                clear c24
                                obtain rfl := Option.some.inj H
                                have hcz25_0 : wc.cell? ⟨gb112, 0, none⟩ = some (.string ((rd_T25 l0 x3_1).f0)) := (blk_cell BK112.out 0).trans rfl
                                have hcz25_1 : wc.cell? ⟨gb112, 1, none⟩ = some (.int .i64 ((rd_T25 l0 x3_1).f1)) := (blk_cell BK112.out 1).trans rfl
                                have hcz25_2 : wc.cell? ⟨gb112, 2, none⟩ = some (.int .i64 ((rd_T25 l0 x3_1).f2)) := (blk_cell BK112.out 2).trans rfl
                                have hfz25_0 := blk_frozen BK112.out 0
                                have hfz25_1 := blk_frozen BK112.out 1
                                have hfz25_2 := blk_frozen BK112.out 2
                                have p115 : 0 ≤ ((ji18) : Int) := of_decide_eq_true (by first | (with_reducible assumption) | assumption)
                                have q115 : (ji18) < (l0.length : Int) := of_decide_eq_true (by first | (with_reducible assumption) | assumption)
                                obtain ⟨ad115, e115, hx115_0, hx115_1, hx115_2⟩ := at_T25 HR0.out (ji18) p115 q115
                                obtain rfl : ad111 = ad115 := (by injection e115)
                                replace hx115_0 := (HB.out.cell (World.block_lt_of_cell? w _ hx115_0)).trans hx115_0
                                replace hx115_1 := (HB.out.cell (World.block_lt_of_cell? w _ hx115_1)).trans hx115_1
                                replace hx115_2 := (HB.out.cell (World.block_lt_of_cell? w _ hx115_2)).trans hx115_2
                                replace p115 := eq_true p115
                                replace q115 := eq_true q115
                                have p116 : 0 ≤ ((ji18) : Int) := of_decide_eq_true (by first | (with_reducible assumption) | assumption)
                                have q116 : (ji18) < (l0.length : Int) := of_decide_eq_true (by first | (with_reducible assumption) | assumption)
                                obtain ⟨ad116, e116, hx116_0, hx116_1, hx116_2⟩ := at_T25 HR0.out (ji18) p116 q116
                                obtain rfl : ad111 = ad116 := (by injection e116)
                                replace hx116_0 := (HB.out.cell (World.block_lt_of_cell? w _ hx116_0)).trans hx116_0
                                replace hx116_1 := (HB.out.cell (World.block_lt_of_cell? w _ hx116_1)).trans hx116_1
                                replace hx116_2 := (HB.out.cell (World.block_lt_of_cell? w _ hx116_2)).trans hx116_2
                                replace p116 := eq_true p116
                                replace q116 := eq_true q116
                                have p117 : 0 ≤ ((ji18) : Int) := of_decide_eq_true (by first | (with_reducible assumption) | assumption)
                                have q117 : (ji18) < (l0.length : Int) := of_decide_eq_true (by first | (with_reducible assumption) | assumption)
                                obtain ⟨ad117, e117, hx117_0, hx117_1, hx117_2⟩ := at_T25 HR0.out (ji18) p117 q117
                                obtain rfl : ad111 = ad117 := (by injection e117)
                                replace hx117_0 := (HB.out.cell (World.block_lt_of_cell? w _ hx117_0)).trans hx117_0
                                replace hx117_1 := (HB.out.cell (World.block_lt_of_cell? w _ hx117_1)).trans hx117_1
                                replace hx117_2 := (HB.out.cell (World.block_lt_of_cell? w _ hx117_2)).trans hx117_2
                                replace p117 := eq_true p117
                                replace q117 := eq_true q117
                                go_wp2
                                repeat (go_quiet (fail); try go_wp2)
                                go_ret
                                exact ⟨by first | rfl | (simp [errW_none, errW_some] <;> rfl) | (simp only [← hji18]; first | rfl | (simp [errW_none, errW_some] <;> rfl)) | (simp [*, errW_none, errW_some] <;> rfl) | (simp (disch := first | assumption | omega) only [Int.tdiv_eq_ediv_of_nonneg, Int.tmod_eq_emod_of_nonneg]; rfl), by repeat (first | (with_reducible first | exact HB.out | apply below_alloc | apply pw_below_drewN | apply below_drew1 | refine below_set ?_ GE112.out) | exact HB.out)⟩
                              · rw [if_neg c24] at H
                                have c24b0 : decide (((rd_T25 l0 x3_1).f1) ≤ ((rd_T25 l0 (ji18)).f1)) = false := decide_eq_false c24
                                clear c24
                                have H' := Aside0.mk H
                                clear H
                                have hcz26_0 : wc.cell? ⟨gb112, 0, none⟩ = some (.string ((rd_T25 l0 x3_1).f0)) := (blk_cell BK112.out 0).trans rfl
                                have hcz26_1 : wc.cell? ⟨gb112, 1, none⟩ = some (.int .i64 ((rd_T25 l0 x3_1).f1)) := (blk_cell BK112.out 1).trans rfl
                                have hcz26_2 : wc.cell? ⟨gb112, 2, none⟩ = some (.int .i64 ((rd_T25 l0 x3_1).f2)) := (blk_cell BK112.out 2).trans rfl
                                have hfz26_0 := blk_frozen BK112.out 0
                                have hfz26_1 := blk_frozen BK112.out 1
                                have hfz26_2 := blk_frozen BK112.out 2
                                have p115 : 0 ≤ ((ji18) : Int) := of_decide_eq_true (by first | (with_reducible assumption) | assumption)
                                have q115 : (ji18) < (l0.length : Int) := of_decide_eq_true (by first | (with_reducible assumption) | assumption)
                                obtain ⟨ad115, e115, hx115_0, hx115_1, hx115_2⟩ := at_T25 HR0.out (ji18) p115 q115
                                obtain rfl : ad111 = ad115 := (by injection e115)
                                replace hx115_0 := (HB.out.cell (World.block_lt_of_cell? w _ hx115_0)).trans hx115_0
                                replace hx115_1 := (HB.out.cell (World.block_lt_of_cell? w _ hx115_1)).trans hx115_1
                                replace hx115_2 := (HB.out.cell (World.block_lt_of_cell? w _ hx115_2)).trans hx115_2
                                replace p115 := eq_true p115
                                replace q115 := eq_true q115
                                have p116 : 0 ≤ ((ji18) : Int) := of_decide_eq_true (by first | (with_reducible assumption) | assumption)
                                have q116 : (ji18) < (l0.length : Int) := of_decide_eq_true (by first | (with_reducible assumption) | assumption)
                                obtain ⟨ad116, e116, hx116_0, hx116_1, hx116_2⟩ := at_T25 HR0.out (ji18) p116 q116
                                obtain rfl : ad111 = ad116 := (by injection e116)
                                replace hx116_0 := (HB.out.cell (World.block_lt_of_cell? w _ hx116_0)).trans hx116_0
                                replace hx116_1 := (HB.out.cell (World.block_lt_of_cell? w _ hx116_1)).trans hx116_1
                                replace hx116_2 := (HB.out.cell (World.block_lt_of_cell? w _ hx116_2)).trans hx116_2
                                replace p116 := eq_true p116
                                replace q116 := eq_true q116
                                have p117 : 0 ≤ ((ji18) : Int) := of_decide_eq_true (by first | (with_reducible assumption) | assumption)
                                have q117 : (ji18) < (l0.length : Int) := of_decide_eq_true (by first | (with_reducible assumption) | assumption)
                                obtain ⟨ad117, e117, hx117_0, hx117_1, hx117_2⟩ := at_T25 HR0.out (ji18) p117 q117
                                obtain rfl : ad111 = ad117 := (by injection e117)
                                replace hx117_0 := (HB.out.cell (World.block_lt_of_cell? w _ hx117_0)).trans hx117_0
                                replace hx117_1 := (HB.out.cell (World.block_lt_of_cell? w _ hx117_1)).trans hx117_1
                                replace hx117_2 := (HB.out.cell (World.block_lt_of_cell? w _ hx117_2)).trans hx117_2
                                replace p117 := eq_true p117
                                replace q117 := eq_true q117
                                go_wp2
                                repeat (go_quiet (fail); try go_wp2)
                                go_roundg kj6
                                case measure => have := HK1.out; have := HJ6.out; omega
                                case rel => exact ⟨(wrap64 (x3_1 + 1)), (by first | rfl | (simp; done) | (simp [*]; done)), H', ⟨by have := HK1.out; have := HJ6.out; omega⟩, ⟨by repeat (first | (with_reducible first | exact HB.out | apply below_alloc | apply pw_below_drewN | apply below_drew1 | refine below_set ?_ GE112.out) | exact HB.out)⟩⟩
                            · rw [if_neg c23] at H
                              have c23b0 : (((rd_T25 l0 x3_1).f0).toList == ((rd_T25 l0 (ji18)).f0).toList) = false := beq_eq_false_iff_ne.mpr c23
                              have c23b1 : (((rd_T25 l0 x3_1).f0).toList != ((rd_T25 l0 (ji18)).f0).toList) = true := bne_iff_ne.mpr c23
                              have H' := Aside0.mk H
                              clear H
                              have hcz27_0 : wc.cell? ⟨gb112, 0, none⟩ = some (.string ((rd_T25 l0 x3_1).f0)) := (blk_cell BK112.out 0).trans rfl
                              have hcz27_1 : wc.cell? ⟨gb112, 1, none⟩ = some (.int .i64 ((rd_T25 l0 x3_1).f1)) := (blk_cell BK112.out 1).trans rfl
                              have hcz27_2 : wc.cell? ⟨gb112, 2, none⟩ = some (.int .i64 ((rd_T25 l0 x3_1).f2)) := (blk_cell BK112.out 2).trans rfl
                              have hfz27_0 := blk_frozen BK112.out 0
                              have hfz27_1 := blk_frozen BK112.out 1
                              have hfz27_2 := blk_frozen BK112.out 2
                              have p115 : 0 ≤ ((ji18) : Int) := of_decide_eq_true (by first | (with_reducible assumption) | assumption)
                              have q115 : (ji18) < (l0.length : Int) := of_decide_eq_true (by first | (with_reducible assumption) | assumption)
                              obtain ⟨ad115, e115, hx115_0, hx115_1, hx115_2⟩ := at_T25 HR0.out (ji18) p115 q115
                              obtain rfl : ad111 = ad115 := (by injection e115)
                              replace hx115_0 := (HB.out.cell (World.block_lt_of_cell? w _ hx115_0)).trans hx115_0
                              replace hx115_1 := (HB.out.cell (World.block_lt_of_cell? w _ hx115_1)).trans hx115_1
                              replace hx115_2 := (HB.out.cell (World.block_lt_of_cell? w _ hx115_2)).trans hx115_2
                              replace p115 := eq_true p115
                              replace q115 := eq_true q115
                              have p116 : 0 ≤ ((ji18) : Int) := of_decide_eq_true (by first | (with_reducible assumption) | assumption)
                              have q116 : (ji18) < (l0.length : Int) := of_decide_eq_true (by first | (with_reducible assumption) | assumption)
                              obtain ⟨ad116, e116, hx116_0, hx116_1, hx116_2⟩ := at_T25 HR0.out (ji18) p116 q116
                              obtain rfl : ad111 = ad116 := (by injection e116)
                              replace hx116_0 := (HB.out.cell (World.block_lt_of_cell? w _ hx116_0)).trans hx116_0
                              replace hx116_1 := (HB.out.cell (World.block_lt_of_cell? w _ hx116_1)).trans hx116_1
                              replace hx116_2 := (HB.out.cell (World.block_lt_of_cell? w _ hx116_2)).trans hx116_2
                              replace p116 := eq_true p116
                              replace q116 := eq_true q116
                              go_wp2
                              repeat (go_quiet (fail); try go_wp2)
                              go_roundg kj6
                              case measure => have := HK1.out; have := HJ6.out; omega
                              case rel => exact ⟨(wrap64 (x3_1 + 1)), (by first | rfl | (simp; done) | (simp [*]; done)), H', ⟨by have := HK1.out; have := HJ6.out; omega⟩, ⟨by repeat (first | (with_reducible first | exact HB.out | apply below_alloc | apply pw_below_drewN | apply below_drew1 | refine below_set ?_ GE112.out) | exact HB.out)⟩⟩
                        · rw [if_neg c20] at H
                          exact absurd H (by simp)
                      · rw [if_neg c19] at H
                        exact absurd H (by simp)
                    · rw [if_neg c17] at H
                      have c17b0 : decide (0 < x3_1) = false := decide_eq_false c17
                      clear c17
                      have H' := Aside0.mk H
                      clear H
                      go_wp2
                      repeat (go_quiet (fail); try go_wp2)
                      go_roundg kj6
                      case measure => have := HK1.out; have := HJ6.out; omega
                      case rel => exact ⟨(wrap64 (x3_1 + 1)), (by first | rfl | (simp; done) | (simp [*]; done)), H', ⟨by have := HK1.out; have := HJ6.out; omega⟩, ⟨by repeat (first | (with_reducible first | exact HB.out | apply below_alloc | apply pw_below_drewN | apply below_drew1 | refine below_set ?_ GE112.out) | exact HB.out)⟩⟩
            · replace c6 := Bool.eq_false_iff.mpr c6
              subst c6
              have H1 : (some 1) = some r := by rw [if_neg (show ¬ (false = true) by decide)] at H; exact H
              clear H
              have H := H1
              clear H1
              obtain rfl := Option.some.inj H
              have p111 : 0 ≤ (x3_1 : Int) := of_decide_eq_true (by first | (with_reducible assumption) | assumption)
              have q111 : x3_1 < (l0.length : Int) := of_decide_eq_true (by first | (with_reducible assumption) | assumption)
              obtain ⟨ad111, e111, hx111_0, hx111_1, hx111_2⟩ := at_T25 HR0.out x3_1 p111 q111
              cases e111
              replace hx111_0 := (HB.out.cell (World.block_lt_of_cell? w _ hx111_0)).trans hx111_0
              replace hx111_1 := (HB.out.cell (World.block_lt_of_cell? w _ hx111_1)).trans hx111_1
              replace hx111_2 := (HB.out.cell (World.block_lt_of_cell? w _ hx111_2)).trans hx111_2
              replace p111 := eq_true p111
              replace q111 := eq_true q111
              go_wp2_with (first | ((with_reducible refine gate_dst (N := 4) rfl ?_); refine box_event ?hg (N := 4) ?hd (cs := #[.string (⟨#[]⟩ : ByteArray), .int .i64 0, .int .i64 0]) (t := 25) ?hr ?_; (case hd => rfl); (case hg => rfl); (case hr => first | (go_simp; done) | (go_simp; rfl)); intro gb112 hg w28 hbox hb; have n0_ := Aside0.mk (below_step (by repeat (first | (with_reducible first | exact HB.out | apply below_alloc | apply pw_below_drewN | apply below_drew1) | exact HB.out)) hb); have n1_ := Aside0.mk (hbox); have n2_ := Aside0.mk ((by rw [hg]; exact (below_size (by repeat (first | (with_reducible first | exact HB.out | apply below_alloc | apply pw_below_drewN | apply below_drew1) | exact HB.out))) : w.heap.size ≤ gb112)); have n3_ := Aside0.mk ((by rw [hg]; exact (below_size (by repeat (first | (with_reducible first | exact HB.out | apply below_alloc | apply pw_below_drewN | apply below_drew1) | exact HB.out))) : w.heap.size ≤ gb112)); clear HB; have HB := n0_; have BK112 := n1_; have GW112 := n2_; have GE112 := n3_; clear n0_ n1_ n2_ n3_; clear hb hbox hg; have hcz29_0 : w28.cell? ⟨gb112, 0, none⟩ = some (.string (⟨#[]⟩ : ByteArray)) := (blk_cell BK112.out 0).trans rfl; have hcz29_1 : w28.cell? ⟨gb112, 1, none⟩ = some (.int .i64 0) := (blk_cell BK112.out 1).trans rfl; have hcz29_2 : w28.cell? ⟨gb112, 2, none⟩ = some (.int .i64 0) := (blk_cell BK112.out 2).trans rfl; have hfz29_0 := blk_frozen BK112.out 0; have hfz29_1 := blk_frozen BK112.out 1; have hfz29_2 := blk_frozen BK112.out 2) | (go_at_call 26; (with_reducible refine (customsref04_currency.calls k1 ((rd_T25 l0 x3_1).f0) false _ A5.out).mono ?_); rintro e w' ⟨rfl, ⟨nd, rfl⟩⟩; (try first | exact ⟨rfl, _, World.drewN_drewN _ _ _⟩ | exact ⟨rfl, _, Eq.trans (World.drewN_drewN _ _ _) (congrArg (World.drewN _) (Nat.add_assoc _ _ _))⟩)))
              repeat (go_quiet (first | ((with_reducible refine gate_dst (N := 4) rfl ?_); refine box_event ?hg (N := 4) ?hd (cs := #[.string (⟨#[]⟩ : ByteArray), .int .i64 0, .int .i64 0]) (t := 25) ?hr ?_; (case hd => rfl); (case hg => rfl); (case hr => first | (go_simp; done) | (go_simp; rfl)); intro gb112 hg w28 hbox hb; have n0_ := Aside0.mk (below_step (by repeat (first | (with_reducible first | exact HB.out | apply below_alloc | apply pw_below_drewN | apply below_drew1) | exact HB.out)) hb); have n1_ := Aside0.mk (hbox); have n2_ := Aside0.mk ((by rw [hg]; exact (below_size (by repeat (first | (with_reducible first | exact HB.out | apply below_alloc | apply pw_below_drewN | apply below_drew1) | exact HB.out))) : w.heap.size ≤ gb112)); have n3_ := Aside0.mk ((by rw [hg]; exact (below_size (by repeat (first | (with_reducible first | exact HB.out | apply below_alloc | apply pw_below_drewN | apply below_drew1) | exact HB.out))) : w.heap.size ≤ gb112)); clear HB; have HB := n0_; have BK112 := n1_; have GW112 := n2_; have GE112 := n3_; clear n0_ n1_ n2_ n3_; clear hb hbox hg; have hcz29_0 : w28.cell? ⟨gb112, 0, none⟩ = some (.string (⟨#[]⟩ : ByteArray)) := (blk_cell BK112.out 0).trans rfl; have hcz29_1 : w28.cell? ⟨gb112, 1, none⟩ = some (.int .i64 0) := (blk_cell BK112.out 1).trans rfl; have hcz29_2 : w28.cell? ⟨gb112, 2, none⟩ = some (.int .i64 0) := (blk_cell BK112.out 2).trans rfl; have hfz29_0 := blk_frozen BK112.out 0; have hfz29_1 := blk_frozen BK112.out 1; have hfz29_2 := blk_frozen BK112.out 2) | (go_at_call 26; (with_reducible refine (customsref04_currency.calls k1 ((rd_T25 l0 x3_1).f0) false _ A5.out).mono ?_); rintro e w' ⟨rfl, ⟨nd, rfl⟩⟩; (try first | exact ⟨rfl, _, World.drewN_drewN _ _ _⟩ | exact ⟨rfl, _, Eq.trans (World.drewN_drewN _ _ _) (congrArg (World.drewN _) (Nat.add_assoc _ _ _))⟩))); try go_wp2_with (first | ((with_reducible refine gate_dst (N := 4) rfl ?_); refine box_event ?hg (N := 4) ?hd (cs := #[.string (⟨#[]⟩ : ByteArray), .int .i64 0, .int .i64 0]) (t := 25) ?hr ?_; (case hd => rfl); (case hg => rfl); (case hr => first | (go_simp; done) | (go_simp; rfl)); intro gb112 hg w28 hbox hb; have n0_ := Aside0.mk (below_step (by repeat (first | (with_reducible first | exact HB.out | apply below_alloc | apply pw_below_drewN | apply below_drew1) | exact HB.out)) hb); have n1_ := Aside0.mk (hbox); have n2_ := Aside0.mk ((by rw [hg]; exact (below_size (by repeat (first | (with_reducible first | exact HB.out | apply below_alloc | apply pw_below_drewN | apply below_drew1) | exact HB.out))) : w.heap.size ≤ gb112)); have n3_ := Aside0.mk ((by rw [hg]; exact (below_size (by repeat (first | (with_reducible first | exact HB.out | apply below_alloc | apply pw_below_drewN | apply below_drew1) | exact HB.out))) : w.heap.size ≤ gb112)); clear HB; have HB := n0_; have BK112 := n1_; have GW112 := n2_; have GE112 := n3_; clear n0_ n1_ n2_ n3_; clear hb hbox hg; have hcz29_0 : w28.cell? ⟨gb112, 0, none⟩ = some (.string (⟨#[]⟩ : ByteArray)) := (blk_cell BK112.out 0).trans rfl; have hcz29_1 : w28.cell? ⟨gb112, 1, none⟩ = some (.int .i64 0) := (blk_cell BK112.out 1).trans rfl; have hcz29_2 : w28.cell? ⟨gb112, 2, none⟩ = some (.int .i64 0) := (blk_cell BK112.out 2).trans rfl; have hfz29_0 := blk_frozen BK112.out 0; have hfz29_1 := blk_frozen BK112.out 1; have hfz29_2 := blk_frozen BK112.out 2) | (go_at_call 26; (with_reducible refine (customsref04_currency.calls k1 ((rd_T25 l0 x3_1).f0) false _ A5.out).mono ?_); rintro e w' ⟨rfl, ⟨nd, rfl⟩⟩; (try first | exact ⟨rfl, _, World.drewN_drewN _ _ _⟩ | exact ⟨rfl, _, Eq.trans (World.drewN_drewN _ _ _) (congrArg (World.drewN _) (Nat.add_assoc _ _ _))⟩))))
              go_ret
              exact ⟨by first | rfl | (simp [errW_none, errW_some] <;> rfl) | (simp [*, errW_none, errW_some] <;> rfl) | (simp (disch := first | assumption | omega) only [Int.tdiv_eq_ediv_of_nonneg, Int.tmod_eq_emod_of_nonneg]; rfl), by repeat (first | (with_reducible first | exact HB.out | apply below_alloc | apply pw_below_drewN | apply below_drew1 | refine below_set ?_ GE112.out) | exact HB.out)⟩
          · rw [if_neg c4] at H
            exact absurd H (by simp)
        · rw [if_neg c3] at H
          have c3b0 : decide (x3_1 < (l0.length : Int)) = false := decide_eq_false c3
          clear c3
          obtain rfl := Option.some.inj H
          go_wp2
          repeat (go_quiet (fail); try go_wp2)
          go_ret
          exact ⟨by first | rfl | (simp [errW_none, errW_some] <;> rfl) | (simp [*, errW_none, errW_some] <;> rfl) | (simp (disch := first | assumption | omega) only [Int.tdiv_eq_ediv_of_nonneg, Int.tmod_eq_emod_of_nonneg]; rfl), by repeat (first | (with_reducible first | exact HB.out | apply below_alloc | apply pw_below_drewN | apply below_drew1) | exact HB.out)⟩

end Go.Proofs.Ytpmdlhncfggjkaa.PX
end
section
namespace Go.Proofs.Ytpmdlhncfggjkaa.PX
open Go.RowKit Go.Proofs.YtpmdlhncfggjkaaW.PrintWords Go.Proofs.YtpmdlhncfggjkaaW.PrintLast Go.Proofs.YtpmdlhncfggjkaaW.PrintMore
attribute [local go_sem] max2_int min2_int max_two min_two max_three min_three max_four min_four   -- for this text's walks alone
set_option linter.unusedVariables false
set_option linter.unusedSimpArgs false

/-! ### customsref04_At: function 17 -/
def customsref04_At.l0 : Nat → List (S25) → ByteArray → Int → Int → Int → Option (Int × Int)
  | 0, _, _, _, _, _ => none
  | k + 1, x0, x1, x2, x9, x10 => if x10 < (x0.length : Int) then (if 0 ≤ x10 then (if ((rd_T25 x0 x10).f0).toList = x1.toList then (if ((rd_T25 x0 x10).f1) ≤ x2 then (customsref04_At.l0 k x0 x1 x2 ((rd_T25 x0 x10).f2) (wrap64 (x10 + 1))) else (customsref04_At.l0 k x0 x1 x2 x9 (wrap64 (x10 + 1)))) else (customsref04_At.l0 k x0 x1 x2 x9 (wrap64 (x10 + 1)))) else (none)) else (if x9 = 0 then (some (0, 6)) else (some (x9, 0)))
def customsref04_At.f (k : Nat) (l0 : List (S25)) (a1 : ByteArray) (a2 : Int) : Option (Int × Int) := (customsref04_Table.f k l0).bind fun t178 => (if t178 = 0 then ((customsref04_Day.f a2).bind fun t179 => (if t179 = true then (if a1.toList = ([69, 85, 82] : List UInt8) then (some (1000000, 0)) else (customsref04_At.l0 k l0 a1 a2 0 0)) else (some (0, 2)))) else (some (0, t178)))
set_option maxHeartbeats 8000000 in
set_option maxRecDepth 100000 in
theorem customsref04_At.calls (k : Nat) (A0 : Option Addr) (c0 : Nat) (l0 : List (S25)) (a1 : ByteArray) (a2 : Int) (r1 : Int) (r2 : Int) (w : World) (hr0 : Kd.C k25 w A0 l0.length l0) (hc0 : l0.length ≤ c0) (h : customsref04_At.f k l0 a1 a2 = some (r1, r2)) :
    Calls Try.prog 17 #[.slice A0 l0.length c0, .string a1, .int .i64 a2] w fun e w' => e = .returned (.tuple #[.int .i64 r1, .int .i64 r2]) ∧ Below w.heap.size w w' := by
  have HR0 := Aside0.mk hr0
  have HC0 := Aside0.mk hc0
  clear hr0 hc0
  have HB := Aside0.mk (Below.refl w.heap.size w)
  have H : ((customsref04_Table.f k l0).bind fun t178 => (if t178 = 0 then ((customsref04_Day.f a2).bind fun t179 => (if t179 = true then (if a1.toList = ([69, 85, 82] : List UInt8) then (some (1000000, 0)) else (customsref04_At.l0 k l0 a1 a2 0 0)) else (some (0, 2)))) else (some (0, t178)))) = some (r1, r2) := h
  clear h
  replace H := Option.bind_eq_some_iff.mp H
  obtain ⟨t178, A40, H⟩ := H
  replace H : (if t178 = 0 then ((customsref04_Day.f a2).bind fun t179 => (if t179 = true then (if a1.toList = ([69, 85, 82] : List UInt8) then (some (1000000, 0)) else (customsref04_At.l0 k l0 a1 a2 0 0)) else (some (0, 2)))) else (some (0, t178))) = some (r1, r2) := H
  have A4 := Aside0.mk A40
  clear A40
  by_cases c5 : t178 = 0
  · rw [if_pos c5] at H
    have c5b0 : (t178 == 0) = true := beq_iff_eq.mpr c5
    have c5b1 : (t178 != 0) = false := bne_eq_false_iff_eq.mpr c5
    clear c5
    replace H := Option.bind_eq_some_iff.mp H
    obtain ⟨t179, A60, H⟩ := H
    replace H : (if t179 = true then (if a1.toList = ([69, 85, 82] : List UInt8) then (some (1000000, 0)) else (customsref04_At.l0 k l0 a1 a2 0 0)) else (some (0, 2))) = some (r1, r2) := H
    have A6 := Aside0.mk A60
    clear A60
    by_cases c7 : t179 = true
    · subst c7
      have H1 : (if a1.toList = ([69, 85, 82] : List UInt8) then (some (1000000, 0)) else (customsref04_At.l0 k l0 a1 a2 0 0)) = some (r1, r2) := by rw [if_pos rfl] at H; exact H
      clear H
      have H := H1
      clear H1
      by_cases c8 : a1.toList = ([69, 85, 82] : List UInt8)
      · rw [if_pos c8] at H
        have c8b0 : (a1.toList == ([69, 85, 82] : List UInt8)) = true := beq_iff_eq.mpr c8
        have c8b1 : (a1.toList != ([69, 85, 82] : List UInt8)) = false := bne_eq_false_iff_eq.mpr c8
        clear c8
        simp only [Option.some.injEq, Prod.mk.injEq] at H
        obtain ⟨rfl, rfl⟩ := H
        go_enter Try.func17, Try.ntmps17
        go_wp2_with (first | ((with_reducible refine gate_callee (f := 12) rfl ?_); refine goesL_ (some 12) rfl rfl Try.func12 (by kernel_rfl) rfl #[.slice A0 l0.length c0] rfl (by (try simp only [List.map_toArray, List.map_cons, List.map_nil]); first | done | rfl | (simp only [List.length_drop, List.length_take]; rfl)) ?_; (with_reducible refine (customsref04_Table.calls k _ _ l0 t178 _ ?side1 ?side2 A4.out).mono ?_); (case side1 => repeat (first | exact HR0.out | (with_reducible refine Kd.C_alloc ?_ _) | (with_reducible refine Kd.C_drewN ?_ _) | (with_reducible refine Kd.C_drew ?_))); (case side2 => exact HC0.out); rintro e w9 ⟨rfl, hb⟩; refine ⟨_, rfl, ?_⟩; have n0_ := Aside0.mk (below_step (by repeat (first | (with_reducible first | exact HB.out | apply below_alloc | apply pw_below_drewN | apply below_drew1) | exact HB.out)) hb); clear HB; have HB := n0_; clear n0_; (try clear hb); (try clear hb2); (try clear hk); (try clear hi)) | ((with_reducible refine gate_callee (f := 27) rfl ?_); refine goesL_ (some 17) rfl rfl Try.func27 (by kernel_rfl) rfl #[.int .i64 a2] rfl (by (try simp only [List.map_toArray, List.map_cons, List.map_nil]); first | done | rfl | (simp only [List.length_drop, List.length_take]; rfl)) ?_; (with_reducible refine (customsref04_Day.calls a2 true _ A6.out).mono ?_); rintro e w' ⟨rfl, ⟨nd, rfl⟩⟩; refine ⟨_, rfl, ?_⟩))
        go_ret2
        exact ⟨by first | rfl | (simp [errW_none, errW_some] <;> rfl) | (simp [*, errW_none, errW_some] <;> rfl) | (simp (disch := first | assumption | omega) only [Int.tdiv_eq_ediv_of_nonneg, Int.tmod_eq_emod_of_nonneg]; rfl), by repeat (first | (with_reducible first | exact HB.out | apply below_alloc | apply pw_below_drewN | apply below_drew1) | exact HB.out)⟩
      · rw [if_neg c8] at H
        have c8b0 : (a1.toList == ([69, 85, 82] : List UInt8)) = false := beq_eq_false_iff_ne.mpr c8
        have c8b1 : (a1.toList != ([69, 85, 82] : List UInt8)) = true := bne_iff_ne.mpr c8
        have H' := Aside0.mk H
        clear H
        go_enter Try.func17, Try.ntmps17
        go_wp2_with (first | ((with_reducible refine gate_callee (f := 12) rfl ?_); refine goesL_ (some 12) rfl rfl Try.func12 (by kernel_rfl) rfl #[.slice A0 l0.length c0] rfl (by (try simp only [List.map_toArray, List.map_cons, List.map_nil]); first | done | rfl | (simp only [List.length_drop, List.length_take]; rfl)) ?_; (with_reducible refine (customsref04_Table.calls k _ _ l0 t178 _ ?side1 ?side2 A4.out).mono ?_); (case side1 => repeat (first | exact HR0.out | (with_reducible refine Kd.C_alloc ?_ _) | (with_reducible refine Kd.C_drewN ?_ _) | (with_reducible refine Kd.C_drew ?_))); (case side2 => exact HC0.out); rintro e w10 ⟨rfl, hb⟩; refine ⟨_, rfl, ?_⟩; have n0_ := Aside0.mk (below_step (by repeat (first | (with_reducible first | exact HB.out | apply below_alloc | apply pw_below_drewN | apply below_drew1) | exact HB.out)) hb); clear HB; have HB := n0_; clear n0_; (try clear hb); (try clear hb2); (try clear hk); (try clear hi)) | ((with_reducible refine gate_callee (f := 27) rfl ?_); refine goesL_ (some 17) rfl rfl Try.func27 (by kernel_rfl) rfl #[.int .i64 a2] rfl (by (try simp only [List.map_toArray, List.map_cons, List.map_nil]); first | done | rfl | (simp only [List.length_drop, List.length_take]; rfl)) ?_; (with_reducible refine (customsref04_Day.calls a2 true _ A6.out).mono ?_); rintro e w' ⟨rfl, ⟨nd, rfl⟩⟩; refine ⟨_, rfl, ?_⟩))
        go_loopg [9, 10] k (fun kq v9 v10 w' => ∃ (x9_1 : Int) (x10_1 : Int), v9 = .int .i64 x9_1 ∧ v10 = .int .i64 x10_1 ∧ Aside0 (customsref04_At.l0 kq l0 a1 a2 x9_1 x10_1 = some (r1, r2)) ∧ Aside0 (kq ≤ k) ∧ Aside0 (Below w.heap.size w w'))
        case atStart => exact ⟨(0), (0), (by first | rfl | (simp; done) | (simp [*]; done)), (by first | rfl | (simp; done) | (simp [*]; done)), H', ⟨Nat.le_refl _⟩, ⟨by repeat (first | (with_reducible first | exact HB.out | apply below_alloc | apply pw_below_drewN | apply below_drew1) | exact HB.out)⟩⟩
        case round =>
          clear H'
          try clear c1
          try clear c2
          try clear p2
          try clear c5
          try clear c5b0
          try clear c5b1
          try clear c7
          try clear c8
          try clear c8b0
          try clear c8b1
          obtain ⟨x9_1, x10_1, rfl, rfl, HA, HK1, HB⟩ := hrel
          cases gk with
          | zero => exact absurd HA.out (by simp [customsref04_At.l0])
          | succ k1 =>
            have H := HA.out
            clear HA
            simp only [customsref04_At.l0] at H
            by_cases c11 : x10_1 < (l0.length : Int)
            · rw [if_pos c11] at H
              have c11b0 : decide (x10_1 < (l0.length : Int)) = true := decide_eq_true c11
              clear c11
              by_cases c12 : 0 ≤ x10_1
              · rw [if_pos c12] at H
                have c12b0 : decide (0 ≤ x10_1) = true := decide_eq_true c12
                clear c12
                by_cases c13 : ((rd_T25 l0 x10_1).f0).toList = a1.toList
                · rw [if_pos c13] at H
                  have c13b0 : (((rd_T25 l0 x10_1).f0).toList == a1.toList) = true := beq_iff_eq.mpr c13
                  have c13b1 : (((rd_T25 l0 x10_1).f0).toList != a1.toList) = false := bne_eq_false_iff_eq.mpr c13
                  clear c13
                  by_cases c14 : ((rd_T25 l0 x10_1).f1) ≤ a2
                  · rw [if_pos c14] at H
                    have c14b0 : decide (((rd_T25 l0 x10_1).f1) ≤ a2) = true := decide_eq_true c14
                    clear c14
                    have H' := Aside0.mk H
                    clear H
                    have p180 : 0 ≤ (x10_1 : Int) := of_decide_eq_true (by first | (with_reducible assumption) | assumption)
                    have q180 : x10_1 < (l0.length : Int) := of_decide_eq_true (by first | (with_reducible assumption) | assumption)
                    obtain ⟨ad180, e180, hx180_0, hx180_1, hx180_2⟩ := at_T25 HR0.out x10_1 p180 q180
                    cases e180
                    replace hx180_0 := (HB.out.cell (World.block_lt_of_cell? w _ hx180_0)).trans hx180_0
                    replace hx180_1 := (HB.out.cell (World.block_lt_of_cell? w _ hx180_1)).trans hx180_1
                    replace hx180_2 := (HB.out.cell (World.block_lt_of_cell? w _ hx180_2)).trans hx180_2
                    replace p180 := eq_true p180
                    replace q180 := eq_true q180
                    have p181 : 0 ≤ (x10_1 : Int) := of_decide_eq_true (by first | (with_reducible assumption) | assumption)
                    have q181 : x10_1 < (l0.length : Int) := of_decide_eq_true (by first | (with_reducible assumption) | assumption)
                    obtain ⟨ad181, e181, hx181_0, hx181_1, hx181_2⟩ := at_T25 HR0.out x10_1 p181 q181
                    obtain rfl : ad180 = ad181 := (by injection e181)
                    replace hx181_0 := (HB.out.cell (World.block_lt_of_cell? w _ hx181_0)).trans hx181_0
                    replace hx181_1 := (HB.out.cell (World.block_lt_of_cell? w _ hx181_1)).trans hx181_1
                    replace hx181_2 := (HB.out.cell (World.block_lt_of_cell? w _ hx181_2)).trans hx181_2
                    replace p181 := eq_true p181
                    replace q181 := eq_true q181
                    have p182 : 0 ≤ (x10_1 : Int) := of_decide_eq_true (by first | (with_reducible assumption) | assumption)
                    have q182 : x10_1 < (l0.length : Int) := of_decide_eq_true (by first | (with_reducible assumption) | assumption)
                    obtain ⟨ad182, e182, hx182_0, hx182_1, hx182_2⟩ := at_T25 HR0.out x10_1 p182 q182
                    obtain rfl : ad180 = ad182 := (by injection e182)
                    replace hx182_0 := (HB.out.cell (World.block_lt_of_cell? w _ hx182_0)).trans hx182_0
                    replace hx182_1 := (HB.out.cell (World.block_lt_of_cell? w _ hx182_1)).trans hx182_1
                    replace hx182_2 := (HB.out.cell (World.block_lt_of_cell? w _ hx182_2)).trans hx182_2
                    replace p182 := eq_true p182
                    replace q182 := eq_true q182
                    go_wp2
                    go_roundg k1
                    case measure => have := HK1.out; omega
                    case rel => exact ⟨((rd_T25 l0 x10_1).f2), (wrap64 (x10_1 + 1)), (by first | rfl | (simp; done) | (simp [*]; done)), (by first | rfl | (simp; done) | (simp [*]; done)), H', ⟨by have := HK1.out; omega⟩, ⟨by repeat (first | (with_reducible first | exact HB.out | apply below_alloc | apply pw_below_drewN | apply below_drew1) | exact HB.out)⟩⟩
                  · rw [if_neg c14] at H
                    have c14b0 : decide (((rd_T25 l0 x10_1).f1) ≤ a2) = false := decide_eq_false c14
                    clear c14
                    have H' := Aside0.mk H
                    clear H
                    have p180 : 0 ≤ (x10_1 : Int) := of_decide_eq_true (by first | (with_reducible assumption) | assumption)
                    have q180 : x10_1 < (l0.length : Int) := of_decide_eq_true (by first | (with_reducible assumption) | assumption)
                    obtain ⟨ad180, e180, hx180_0, hx180_1, hx180_2⟩ := at_T25 HR0.out x10_1 p180 q180
                    cases e180
                    replace hx180_0 := (HB.out.cell (World.block_lt_of_cell? w _ hx180_0)).trans hx180_0
                    replace hx180_1 := (HB.out.cell (World.block_lt_of_cell? w _ hx180_1)).trans hx180_1
                    replace hx180_2 := (HB.out.cell (World.block_lt_of_cell? w _ hx180_2)).trans hx180_2
                    replace p180 := eq_true p180
                    replace q180 := eq_true q180
                    have p181 : 0 ≤ (x10_1 : Int) := of_decide_eq_true (by first | (with_reducible assumption) | assumption)
                    have q181 : x10_1 < (l0.length : Int) := of_decide_eq_true (by first | (with_reducible assumption) | assumption)
                    obtain ⟨ad181, e181, hx181_0, hx181_1, hx181_2⟩ := at_T25 HR0.out x10_1 p181 q181
                    obtain rfl : ad180 = ad181 := (by injection e181)
                    replace hx181_0 := (HB.out.cell (World.block_lt_of_cell? w _ hx181_0)).trans hx181_0
                    replace hx181_1 := (HB.out.cell (World.block_lt_of_cell? w _ hx181_1)).trans hx181_1
                    replace hx181_2 := (HB.out.cell (World.block_lt_of_cell? w _ hx181_2)).trans hx181_2
                    replace p181 := eq_true p181
                    replace q181 := eq_true q181
                    go_wp2
                    go_roundg k1
                    case measure => have := HK1.out; omega
                    case rel => exact ⟨(x9_1), (wrap64 (x10_1 + 1)), (by first | rfl | (simp; done) | (simp [*]; done)), (by first | rfl | (simp; done) | (simp [*]; done)), H', ⟨by have := HK1.out; omega⟩, ⟨by repeat (first | (with_reducible first | exact HB.out | apply below_alloc | apply pw_below_drewN | apply below_drew1) | exact HB.out)⟩⟩
                · rw [if_neg c13] at H
                  have c13b0 : (((rd_T25 l0 x10_1).f0).toList == a1.toList) = false := beq_eq_false_iff_ne.mpr c13
                  have c13b1 : (((rd_T25 l0 x10_1).f0).toList != a1.toList) = true := bne_iff_ne.mpr c13
                  have H' := Aside0.mk H
                  clear H
                  have p180 : 0 ≤ (x10_1 : Int) := of_decide_eq_true (by first | (with_reducible assumption) | assumption)
                  have q180 : x10_1 < (l0.length : Int) := of_decide_eq_true (by first | (with_reducible assumption) | assumption)
                  obtain ⟨ad180, e180, hx180_0, hx180_1, hx180_2⟩ := at_T25 HR0.out x10_1 p180 q180
                  cases e180
                  replace hx180_0 := (HB.out.cell (World.block_lt_of_cell? w _ hx180_0)).trans hx180_0
                  replace hx180_1 := (HB.out.cell (World.block_lt_of_cell? w _ hx180_1)).trans hx180_1
                  replace hx180_2 := (HB.out.cell (World.block_lt_of_cell? w _ hx180_2)).trans hx180_2
                  replace p180 := eq_true p180
                  replace q180 := eq_true q180
                  go_wp2
                  go_roundg k1
                  case measure => have := HK1.out; omega
                  case rel => exact ⟨(x9_1), (wrap64 (x10_1 + 1)), (by first | rfl | (simp; done) | (simp [*]; done)), (by first | rfl | (simp; done) | (simp [*]; done)), H', ⟨by have := HK1.out; omega⟩, ⟨by repeat (first | (with_reducible first | exact HB.out | apply below_alloc | apply pw_below_drewN | apply below_drew1) | exact HB.out)⟩⟩
              · rw [if_neg c12] at H
                exact absurd H (by simp)
            · rw [if_neg c11] at H
              have c11b0 : decide (x10_1 < (l0.length : Int)) = false := decide_eq_false c11
              clear c11
              by_cases c15 : x9_1 = 0
              · rw [if_pos c15] at H
                have c15b0 : (x9_1 == 0) = true := beq_iff_eq.mpr c15
                have c15b1 : (x9_1 != 0) = false := bne_eq_false_iff_eq.mpr c15
                clear c15
                simp only [Option.some.injEq, Prod.mk.injEq] at H
                obtain ⟨rfl, rfl⟩ := H
                go_wp2
                go_ret2
                exact ⟨by first | rfl | (simp [errW_none, errW_some] <;> rfl) | (simp [*, errW_none, errW_some] <;> rfl) | (simp (disch := first | assumption | omega) only [Int.tdiv_eq_ediv_of_nonneg, Int.tmod_eq_emod_of_nonneg]; rfl), by repeat (first | (with_reducible first | exact HB.out | apply below_alloc | apply pw_below_drewN | apply below_drew1) | exact HB.out)⟩
              · rw [if_neg c15] at H
                have c15b0 : (x9_1 == 0) = false := beq_eq_false_iff_ne.mpr c15
                have c15b1 : (x9_1 != 0) = true := bne_iff_ne.mpr c15
                simp only [Option.some.injEq, Prod.mk.injEq] at H
                obtain ⟨rfl, rfl⟩ := H
                go_wp2
                go_ret2
                exact ⟨by first | rfl | (simp [errW_none, errW_some] <;> rfl) | (simp [*, errW_none, errW_some] <;> rfl) | (simp (disch := first | assumption | omega) only [Int.tdiv_eq_ediv_of_nonneg, Int.tmod_eq_emod_of_nonneg]; rfl), by repeat (first | (with_reducible first | exact HB.out | apply below_alloc | apply pw_below_drewN | apply below_drew1) | exact HB.out)⟩
    · replace c7 := Bool.eq_false_iff.mpr c7
      subst c7
      have H1 : (some (0, 2)) = some (r1, r2) := by rw [if_neg (show ¬ (false = true) by decide)] at H; exact H
      clear H
      have H := H1
      clear H1
      simp only [Option.some.injEq, Prod.mk.injEq] at H
      obtain ⟨rfl, rfl⟩ := H
      go_enter Try.func17, Try.ntmps17
      go_wp2_with (first | ((with_reducible refine gate_callee (f := 12) rfl ?_); refine goesL_ (some 12) rfl rfl Try.func12 (by kernel_rfl) rfl #[.slice A0 l0.length c0] rfl (by (try simp only [List.map_toArray, List.map_cons, List.map_nil]); first | done | rfl | (simp only [List.length_drop, List.length_take]; rfl)) ?_; (with_reducible refine (customsref04_Table.calls k _ _ l0 t178 _ ?side1 ?side2 A4.out).mono ?_); (case side1 => repeat (first | exact HR0.out | (with_reducible refine Kd.C_alloc ?_ _) | (with_reducible refine Kd.C_drewN ?_ _) | (with_reducible refine Kd.C_drew ?_))); (case side2 => exact HC0.out); rintro e w16 ⟨rfl, hb⟩; refine ⟨_, rfl, ?_⟩; have n0_ := Aside0.mk (below_step (by repeat (first | (with_reducible first | exact HB.out | apply below_alloc | apply pw_below_drewN | apply below_drew1) | exact HB.out)) hb); clear HB; have HB := n0_; clear n0_; (try clear hb); (try clear hb2); (try clear hk); (try clear hi)) | ((with_reducible refine gate_callee (f := 27) rfl ?_); refine goesL_ (some 17) rfl rfl Try.func27 (by kernel_rfl) rfl #[.int .i64 a2] rfl (by (try simp only [List.map_toArray, List.map_cons, List.map_nil]); first | done | rfl | (simp only [List.length_drop, List.length_take]; rfl)) ?_; (with_reducible refine (customsref04_Day.calls a2 false _ A6.out).mono ?_); rintro e w' ⟨rfl, ⟨nd, rfl⟩⟩; refine ⟨_, rfl, ?_⟩))
      go_ret2
      exact ⟨by first | rfl | (simp [errW_none, errW_some] <;> rfl) | (simp [*, errW_none, errW_some] <;> rfl) | (simp (disch := first | assumption | omega) only [Int.tdiv_eq_ediv_of_nonneg, Int.tmod_eq_emod_of_nonneg]; rfl), by repeat (first | (with_reducible first | exact HB.out | apply below_alloc | apply pw_below_drewN | apply below_drew1) | exact HB.out)⟩
  · rw [if_neg c5] at H
    have c5b0 : (t178 == 0) = false := beq_eq_false_iff_ne.mpr c5
    have c5b1 : (t178 != 0) = true := bne_iff_ne.mpr c5
    simp only [Option.some.injEq, Prod.mk.injEq] at H
    obtain ⟨rfl, rfl⟩ := H
    go_enter Try.func17, Try.ntmps17
    go_wp2_with (first | ((with_reducible refine gate_callee (f := 12) rfl ?_); refine goesL_ (some 12) rfl rfl Try.func12 (by kernel_rfl) rfl #[.slice A0 l0.length c0] rfl (by (try simp only [List.map_toArray, List.map_cons, List.map_nil]); first | done | rfl | (simp only [List.length_drop, List.length_take]; rfl)) ?_; (with_reducible refine (customsref04_Table.calls k _ _ l0 t178 _ ?side1 ?side2 A4.out).mono ?_); (case side1 => repeat (first | exact HR0.out | (with_reducible refine Kd.C_alloc ?_ _) | (with_reducible refine Kd.C_drewN ?_ _) | (with_reducible refine Kd.C_drew ?_))); (case side2 => exact HC0.out); rintro e w17 ⟨rfl, hb⟩; refine ⟨_, rfl, ?_⟩; have n0_ := Aside0.mk (below_step (by repeat (first | (with_reducible first | exact HB.out | apply below_alloc | apply pw_below_drewN | apply below_drew1) | exact HB.out)) hb); clear HB; have HB := n0_; clear n0_; (try clear hb); (try clear hb2); (try clear hk); (try clear hi)))
    go_ret2
    exact ⟨by first | rfl | (simp [errW_none, errW_some] <;> rfl) | (simp [*, errW_none, errW_some] <;> rfl) | (simp (disch := first | assumption | omega) only [Int.tdiv_eq_ediv_of_nonneg, Int.tmod_eq_emod_of_nonneg]; rfl), by repeat (first | (with_reducible first | exact HB.out | apply below_alloc | apply pw_below_drewN | apply below_drew1) | exact HB.out)⟩

end Go.Proofs.Ytpmdlhncfggjkaa.PX
end
section
namespace Go.Proofs.Ytpmdlhncfggjkaa.PX
open Go.RowKit Go.Proofs.YtpmdlhncfggjkaaW.PrintWords Go.Proofs.YtpmdlhncfggjkaaW.PrintLast Go.Proofs.YtpmdlhncfggjkaaW.PrintMore
set_option linter.unusedVariables false
set_option linter.unusedSimpArgs false

theorem Ev.pos {α : Type} {c : Prop} [Decidable c] {f g : Nat → Option α} {r : α} (h : c) (h1 : Ev f r) : Ev (fun k => if c then f k else g k) r := Ev.congr (fun k => if_pos h) h1
theorem Ev.neg {α : Type} {c : Prop} [Decidable c] {f g : Nat → Option α} {r : α} (h : ¬ c) (h1 : Ev g r) : Ev (fun k => if c then f k else g k) r := Ev.congr (fun k => if_neg h) h1
/- are the bytes from i on, n of them, capital letters -/
def upN (s : ByteArray) : Nat → Int → Bool
  | 0, _ => true
  | n + 1, i => if bt s i < 65 ∨ 90 < bt s i then false else upN s n (i + 1)
def okCode (s : ByteArray) : Bool := decide ((s.size : Int) = 3) && upN s 3 0 && (s.toList != ([69, 85, 82] : List UInt8))
theorem valid_l0 (s : ByteArray) (hs : (s.size : Int) = 3) (n : Nat) : ∀ i : Int, 0 ≤ i → i + n = 3 → Ev (fun k => currency_valid.l0 k s i) (upN s n i) := by
  induction n with
  | zero =>
    intro i h0 h1
    refine Ev.up ?_
    simp only [currency_valid.l0]
    exact Ev.neg (by omega) (Ev.now _)
  | succ n ih =>
    intro i h0 h1
    refine Ev.up ?_
    simp only [currency_valid.l0, upN]
    refine Ev.pos (by omega) (Ev.pos h0 (Ev.pos (by omega) ?_))
    by_cases c : bt s i < 65
    · rw [if_pos (.inl c)]; exact Ev.pos c (Ev.now _)
    · refine Ev.neg c ?_
      by_cases d : 90 < bt s i
      · rw [if_pos (.inr d)]; exact Ev.pos d (Ev.now _)
      · rw [if_neg (by omega)]
        refine Ev.neg d ?_
        rw [wrap64_of (by omega) (by omega)]
        exact ih (i + 1) (by omega) (by omega)
theorem valid_ev (s : ByteArray) : Ev (fun k => currency_valid.f k s) (okCode s) := by
  unfold currency_valid.f okCode
  by_cases hs : (s.size : Int) = 3
  · refine Ev.pos hs (Ev.up ?_)
    simp only [currency_valid.j0]
    rw [decide_eq_true hs, Bool.true_and]
    by_cases e : s.toList = ([69, 85, 82] : List UInt8)
    · rw [show (s.toList == ([69, 85, 82] : List UInt8)) = true by simp [e], show (s.toList != ([69, 85, 82] : List UInt8)) = false by simp [e], Bool.and_false]
      exact Ev.pos rfl (Ev.now _)
    · rw [show (s.toList == ([69, 85, 82] : List UInt8)) = false by simp [e], show (s.toList != ([69, 85, 82] : List UInt8)) = true by simp [e], Bool.and_true]
      exact Ev.neg (by decide) (valid_l0 s hs 3 0 (by omega) (by omega))
  · refine Ev.neg hs (Ev.up ?_)
    simp only [currency_valid.j0]
    rw [decide_eq_false hs]
    exact Ev.pos trivial (Ev.now _)
/- the error of the row i of a table -/
def rowErr (t : List S25) (i : Int) : Int :=
  if okCode (rd_T25 t i).f0 = false then 1 else if (rd_T25 t i).f1 < 0 ∨ 36524 < (rd_T25 t i).f1 ∨ (rd_T25 t i).f2 < 1 ∨ 1000000000 < (rd_T25 t i).f2 then 2
  else if i = 0 then 0 else if Op.bytesLess (rd_T25 t i).f0.toList (rd_T25 t (i - 1)).f0.toList = true ∨ (rd_T25 t i).f0.toList = (rd_T25 t (i - 1)).f0.toList ∧ (rd_T25 t i).f1 ≤ (rd_T25 t (i - 1)).f1 then 9 else 0
def scanN (t : List S25) : Nat → Int → Int
  | 0, _ => 0
  | n + 1, i => if rowErr t i = 0 then scanN t n (i + 1) else rowErr t i
theorem scan_err {t : List S25} {n : Nat} {i e : Int} (h : rowErr t i = e) (he : e ≠ 0) : scanN t (n + 1) i = e := by
  simp only [scanN, h]; rw [if_neg he]
theorem scan_ok {t : List S25} {n : Nat} {i : Int} (h : rowErr t i = 0) : scanN t (n + 1) i = scanN t n (i + 1) := by
  simp only [scanN, h, if_true]
def badRow (x : S25) : Prop := x.f1 < 0 ∨ 36524 < x.f1 ∨ x.f2 < 1 ∨ 1000000000 < x.f2
def badTwo (p x : S25) : Prop := Op.bytesLess x.f0.toList p.f0.toList = true ∨ x.f0.toList = p.f0.toList ∧ x.f1 ≤ p.f1
theorem row1 {t : List S25} {i : Int} (h : okCode (rd_T25 t i).f0 = false) : rowErr t i = 1 := by unfold rowErr; rw [if_pos h]
theorem row2 {t : List S25} {i : Int} (h : okCode (rd_T25 t i).f0 = true) (b : badRow (rd_T25 t i)) : rowErr t i = 2 := by unfold rowErr; rw [if_neg (by rw [h]; decide)]; exact if_pos b
theorem row0 {t : List S25} {i : Int} (h : okCode (rd_T25 t i).f0 = true) (b : ¬ badRow (rd_T25 t i)) (h0 : i = 0) : rowErr t i = 0 := by unfold rowErr; unfold badRow at b; rw [if_neg (by rw [h]; decide), if_neg b, if_pos h0]
theorem row9 {t : List S25} {i : Int} (h : okCode (rd_T25 t i).f0 = true) (b : ¬ badRow (rd_T25 t i)) (h0 : ¬ i = 0) (b2 : badTwo (rd_T25 t (i - 1)) (rd_T25 t i)) : rowErr t i = 9 := by unfold rowErr; unfold badRow at b; unfold badTwo at b2; rw [if_neg (by rw [h]; decide), if_neg b, if_neg h0]; exact if_pos b2
theorem row00 {t : List S25} {i : Int} (h : okCode (rd_T25 t i).f0 = true) (b : ¬ badRow (rd_T25 t i)) (h0 : ¬ i = 0) (b2 : ¬ badTwo (rd_T25 t (i - 1)) (rd_T25 t i)) : rowErr t i = 0 := by unfold rowErr; unfold badRow at b; unfold badTwo at b2; rw [if_neg (by rw [h]; decide), if_neg b, if_neg h0]; exact if_neg b2
/- P5.1: the error of a table -/
def tabErr (t : List S25) : Int := if 1000 < t.length then 8 else scanN t t.length 0
theorem less_tri (a b : List UInt8) : (Op.bytesLess a b = true ∧ a ≠ b ∧ Op.bytesLess b a = false) ∨ (a = b ∧ Op.bytesLess b a = false ∧ Op.bytesLess a b = false) ∨ (Op.bytesLess b a = true ∧ a ≠ b ∧ Op.bytesLess a b = false) := by
  rw [bytesLess_eq, bytesLess_eq]
  by_cases h1 : a < b
  · exact .inl ⟨decide_eq_true h1, fun e => List.lt_irrefl _ (e ▸ h1), decide_eq_false (List.lt_asymm h1)⟩
  · by_cases h2 : b < a
    · exact .inr (.inr ⟨decide_eq_true h2, fun e => List.lt_irrefl _ (e ▸ h2), decide_eq_false h1⟩)
    · exact .inr (.inl ⟨List.le_antisymm (List.not_lt.mp h2) (List.not_lt.mp h1), decide_eq_false h2, decide_eq_false h1⟩)
theorem validate_l0 (t : List S25) (hl : t.length ≤ 1000) (n : Nat) : ∀ i : Int, 0 ≤ i → i + n = t.length → Ev (fun k => currency_Validate.l0 k t t (t.length : Int) i) (scanN t n i) := by
  induction n with
  | zero =>
    intro i h0 h1
    refine Ev.up ?_
    simp only [currency_Validate.l0]
    exact Ev.neg (by omega) (Ev.now _)
  | succ n ih =>
    intro i h0 h1
    refine Ev.up ?_
    have hi := ih (i + 1) (by omega) (by omega)
    simp only [currency_Validate.l0]
    refine Ev.pos (by omega) (Ev.pos h0 (Ev.pos (by omega) ?_))
    refine Ev.bind (valid_ev _) ?_
    have bad : Ev (fun k => currency_Validate.j1 k t i t (t.length : Int) i true (rd_T25 t i).f0 (rd_T25 t i).f1 (rd_T25 t i).f2) 2 := by
      refine Ev.up ?_
      simp only [currency_Validate.j1, if_true]
      exact Ev.now _
    cases hk : okCode (rd_T25 t i).f0 with
    | false => rw [scan_err (row1 hk) (by decide)]; exact Ev.neg (by decide) (Ev.now _)
    | true =>
      refine Ev.pos rfl ?_
      by_cases c1 : (rd_T25 t i).f1 < 0
      · rw [scan_err (row2 hk (.inl c1)) (by decide)]; exact Ev.pos c1 bad
      refine Ev.neg c1 ?_
      by_cases c2 : (rd_T25 t i).f1 > 36524
      · rw [scan_err (row2 hk (.inr (.inl c2))) (by decide)]; exact Ev.pos c2 bad
      refine Ev.neg c2 ?_
      by_cases c3 : (rd_T25 t i).f2 < 1
      · rw [scan_err (row2 hk (.inr (.inr (.inl c3)))) (by decide)]; exact Ev.pos c3 bad
      refine Ev.neg c3 ?_
      by_cases c4 : (rd_T25 t i).f2 > 1000000000
      · rw [scan_err (row2 hk (.inr (.inr (.inr c4)))) (by decide), decide_eq_true c4]; exact bad
      have hb : ¬ badRow (rd_T25 t i) := by unfold badRow; omega
      rw [decide_eq_false c4]
      refine Ev.up ?_
      simp only [currency_Validate.j1, Bool.false_eq_true, if_false]
      rw [wrap64_of (x := i + 1) (by omega) (by omega)]
      by_cases c5 : i = 0
      · rw [scan_ok (row0 hk hb c5)]; exact Ev.pos c5 hi
      refine Ev.neg c5 ?_
      rw [wrap64_of (x := i - 1) (by omega) (by omega)]
      refine Ev.pos (by omega) (Ev.pos (by omega) ?_)
      rcases less_tri (rd_T25 t (i - 1)).f0.toList (rd_T25 t i).f0.toList with ⟨e1, e2, e3⟩ | ⟨e1, e2, e3⟩ | ⟨e1, e2, e3⟩
      · rw [scan_ok (row00 hk hb c5 (fun h => h.elim (by rw [e3]; decide) (fun h => e2 h.1.symm)))]
        exact Ev.pos e1 (Ev.neg e2 hi)
      · refine Ev.neg (by rw [e3]; decide) (Ev.pos e1 ?_)
        by_cases c6 : (rd_T25 t (i - 1)).f1 ≥ (rd_T25 t i).f1
        · rw [scan_err (row9 hk hb c5 (.inr ⟨e1.symm, c6⟩)) (by decide)]; exact Ev.pos c6 (Ev.now _)
        · rw [scan_ok (row00 hk hb c5 (fun h => h.elim (by rw [e2]; decide) (fun h => c6 h.2)))]
          exact Ev.neg c6 hi
      · rw [scan_err (row9 hk hb c5 (.inl e1)) (by decide)]
        exact Ev.neg (by rw [e3]; decide) (Ev.neg e2 (Ev.now _))
theorem validate_ev (t : List S25) : Ev (fun k => currency_Validate.f k t) (tabErr t) := by
  unfold currency_Validate.f tabErr
  by_cases c : 1000 < t.length
  · rw [if_pos c]; exact Ev.pos (by omega) (Ev.now _)
  · rw [if_neg c]; exact Ev.neg (by omega) (validate_l0 t (by omega) t.length 0 (by omega) (by omega))
end Go.Proofs.Ytpmdlhncfggjkaa.PX
end
section
namespace Go.Proofs.Ytpmdlhncfggjkaa.PX
open Go.RowKit Go.Proofs.YtpmdlhncfggjkaaW.PrintWords Go.Proofs.YtpmdlhncfggjkaaW.PrintLast Go.Proofs.YtpmdlhncfggjkaaW.PrintMore
set_option linter.unusedVariables false
set_option linter.unusedSimpArgs false

theorem scan_zero {t : List S25} {n : Nat} : ∀ {i : Int}, scanN t n i = 0 → ∀ j : Int, i ≤ j → j < i + n → rowErr t j = 0 := by
  induction n with
  | zero => intro i _ j h1 h2; omega
  | succ n ih =>
    intro i h j h1 h2
    by_cases c : rowErr t i = 0
    · rw [scan_ok c] at h
      by_cases d : j = i
      · rw [d]; exact c
      · exact ih h j (by omega) (by omega)
    · rw [scan_err rfl c] at h; exact absurd h c
theorem tab_zero {t : List S25} (h : tabErr t = 0) : t.length ≤ 1000 ∧ ∀ j : Int, 0 ≤ j → j < t.length → rowErr t j = 0 := by
  unfold tabErr at h
  by_cases c : 1000 < t.length
  · rw [if_pos c] at h; exact absurd h (by decide)
  · rw [if_neg c] at h
    exact ⟨by omega, fun j h1 h2 => scan_zero h j h1 (by omega)⟩
theorem row_zero {t : List S25} {i : Int} (h : rowErr t i = 0) : okCode (rd_T25 t i).f0 = true ∧ ¬ badRow (rd_T25 t i) := by
  cases hk : okCode (rd_T25 t i).f0 with
  | false => rw [row1 hk] at h; exact absurd h (by decide)
  | true =>
    refine ⟨rfl, fun b => ?_⟩
    rw [row2 hk b] at h; exact absurd h (by decide)
theorem code_size {s : ByteArray} (h : okCode s = true) : s.size = 3 ∧ s.toList ≠ ([69, 85, 82] : List UInt8) := by
  unfold okCode at h
  simp only [Bool.and_eq_true, decide_eq_true_eq, bne_iff_ne] at h
  exact ⟨by omega, h.2⟩
theorem rows_ok {t : List S25} (h : tabErr t = 0) : t.all rowOk = true := by
  obtain ⟨_, h2⟩ := tab_zero h
  refine List.all_eq_true.mpr fun x hx => ?_
  obtain ⟨j, hj, rfl⟩ := List.getElem_of_mem hx
  obtain ⟨a, b⟩ := row_zero (h2 (j : Int) (by omega) (by omega))
  have e : rd_T25 t (j : Int) = t[j] := by simp [rd_T25, List.getD, hj]
  rw [e] at a b
  have := (code_size a).1
  unfold badRow at b
  simp only [rowOk, Bool.and_eq_true, decide_eq_true_eq]
  omega
/- P5.2: the rate of a day, and the error -/
def rateS : Option Int → Int × Int
  | some v => (v, 0)
  | none => (0, 6)
def atS (t : List S25) (cur : ByteArray) (day : Int) : Int × Int := if tabErr t = 0 then (if day < 0 ∨ 36524 < day then (0, 2) else rateS (rateOf t cur day)) else (0, tabErr t)
theorem at_ev (t : List S25) (cur : ByteArray) (day : Int) (hc : cur.size ≤ 140737488355327) : Ev (fun k => currency_At.f k t cur day) (atS t cur day) := by
  unfold currency_At.f
  refine Ev.bind (validate_ev t) ?_
  by_cases h : tabErr t = 0
  · have e : atS t cur day = if day < 0 ∨ 36524 < day then (0, 2) else rateS (rateOf t cur day) := by unfold atS; exact if_pos h
    rw [e]
    refine Ev.pos h ?_
    by_cases c1 : day < 0
    · exact Ev.as (Ev.pos c1 (Ev.now _)) (if_pos (.inl c1)).symm
    refine Ev.neg c1 ?_
    by_cases c2 : day > 36524
    · exact Ev.as (Ev.pos c2 (Ev.now _)) (if_pos (.inr c2)).symm
    refine Ev.neg c2 ?_
    refine Ev.as (Ev.pos (rows_ok h) (Ev.pos ⟨hc, (tab_zero h).1⟩ ?_)) (if_neg (by omega)).symm
    cases rateOf t cur day <;> exact Ev.now _
  · exact Ev.as (Ev.neg h (Ev.now _)) (by unfold atS; exact (if_neg h).symm)
theorem rate_pos {t : List S25} (h : tabErr t = 0) (cur : ByteArray) (day : Int) (n : Nat) : n ≤ t.length → ∀ v, rateOf (t.take n) cur day = some v → 1 ≤ v ∧ v ≤ 1000000000 := by
  induction n with
  | zero =>
    intro _ v hv
    simp only [List.take_zero, rateOf, List.foldl_nil] at hv
    split at hv
    · cases hv; omega
    · cases hv
  | succ n ih =>
    intro hn v hv
    rw [rateOf_step t n (by omega)] at hv
    split at hv
    · have := (row_zero ((tab_zero h).2 (n : Int) (by omega) (by omega))).2
      unfold badRow at this
      simp only [Option.some.injEq] at hv
      subst hv; omega
    · exact ih (by omega) v hv
end Go.Proofs.Ytpmdlhncfggjkaa.PX
end
section
namespace Go.Proofs.Ytpmdlhncfggjkaa.PX
open Go.RowKit Go.Proofs.YtpmdlhncfggjkaaW.PrintWords Go.Proofs.YtpmdlhncfggjkaaW.PrintLast Go.Proofs.YtpmdlhncfggjkaaW.PrintMore
attribute [local go_sem] max2_int min2_int max_two min_two max_three min_three max_four min_four   -- for this text's walks alone
set_option linter.unusedVariables false
set_option linter.unusedSimpArgs false

/-! ### customsref02_Amount: function 30 -/
def customsref02_Amount.f (a0 : Int) : Option (Bool) := if a0 ≥ (-1000000000000) then (some (decide (a0 ≤ 1000000000000))) else (some false)
set_option maxHeartbeats 8000000 in
set_option maxRecDepth 100000 in
theorem customsref02_Amount.calls (a0 : Int) (r : Bool) (w : World) (h : customsref02_Amount.f a0 = some r) :
    Calls Try.prog 30 #[.int .i64 a0] w fun e w' => e = .returned (.bool r) ∧ Drawn0 w w' := by
  have H : (if a0 ≥ (-1000000000000) then (some (decide (a0 ≤ 1000000000000))) else (some false)) = some r := h
  clear h
  by_cases c2 : a0 ≥ (-1000000000000)
  · rw [if_pos c2] at H
    have c2b0 : decide ((-1000000000000) ≤ a0) = true := decide_eq_true c2
    clear c2
    obtain rfl := Option.some.inj H
    go_enter Try.func30, Try.ntmps30
    go_wp2
    go_ret
    exact ⟨by first | rfl | (simp; done) | (simp [*]; done), by repeat (first | exact Drawn0.refl _ | apply Drawn0.step)⟩
  · rw [if_neg c2] at H
    have c2b0 : decide ((-1000000000000) ≤ a0) = false := decide_eq_false c2
    clear c2
    obtain rfl := Option.some.inj H
    go_enter Try.func30, Try.ntmps30
    go_wp2
    go_ret
    exact ⟨by first | rfl | (simp; done) | (simp [*]; done), by repeat (first | exact Drawn0.refl _ | apply Drawn0.step)⟩

end Go.Proofs.Ytpmdlhncfggjkaa.PX
end
section
namespace Go.Proofs.Ytpmdlhncfggjkaa.PX
open Go.RowKit Go.Proofs.YtpmdlhncfggjkaaW.PrintWords Go.Proofs.YtpmdlhncfggjkaaW.PrintLast Go.Proofs.YtpmdlhncfggjkaaW.PrintMore
attribute [local go_sem] max2_int min2_int max_two min_two max_three min_three max_four min_four   -- for this text's walks alone
set_option linter.unusedVariables false
set_option linter.unusedSimpArgs false

/-! ### customsref04_Cross: function 21 -/
mutual
def customsref04_Cross.j0 : Nat → Int → Int → Int → Int → Bool → Option (Int × Int)
  | 0, _, _, _, _, _ => none
  | k + 1, x1, x5, x14, x16, x48 => if x48 = true then (some (0, 2)) else ((customsref01_MulDiv.f k (IntKind.u64.wrap (mx x1 (wrap64 (-x1)))) (IntKind.u64.wrap (x14)) (IntKind.u64.wrap (x16)) x5).bind fun bt245 => (if bt245.2 = 0 then (customsref04_Cross.j1 k x1 bt245.1 (decide (bt245.1 > 1000000000000))) else (customsref04_Cross.j1 k x1 bt245.1 true)))
def customsref04_Cross.j1 : Nat → Int → Int → Bool → Option (Int × Int)
  | 0, _, _, _ => none
  | k + 1, x1, x17, x68 => if x68 = true then (some (0, 3)) else (if x1 < 0 then (some (wrap64 (-(wrap64 (x17))), 0)) else (some (wrap64 (x17), 0)))
end
def customsref04_Cross.f (k : Nat) (l0 : List (S25)) (a1 : Int) (a2 : ByteArray) (a3 : ByteArray) (a4 : Int) (a5 : Int) : Option (Int × Int) := (customsref04_At.f k l0 a2 a4).bind fun bt240 => (if bt240.2 = 0 then ((customsref04_At.f k l0 a3 a4).bind fun bt242 => (if bt242.2 = 0 then ((customsref02_Amount.f a1).bind fun t244 => (if t244 = true then (if a5 < 0 then (customsref04_Cross.j0 k a1 a5 bt240.1 bt242.1 true) else (customsref04_Cross.j0 k a1 a5 bt240.1 bt242.1 (decide (a5 > 3)))) else (customsref04_Cross.j0 k a1 a5 bt240.1 bt242.1 true))) else (some (0, bt242.2)))) else (some (0, bt240.2)))
set_option maxHeartbeats 8000000 in
set_option maxRecDepth 100000 in
theorem customsref04_Cross.calls (k : Nat) (A0 : Option Addr) (c0 : Nat) (l0 : List (S25)) (a1 : Int) (a2 : ByteArray) (a3 : ByteArray) (a4 : Int) (a5 : Int) (r1 : Int) (r2 : Int) (w : World) (hr0 : Kd.C k25 w A0 l0.length l0) (hc0 : l0.length ≤ c0) (h : customsref04_Cross.f k l0 a1 a2 a3 a4 a5 = some (r1, r2)) :
    Calls Try.prog 21 #[.slice A0 l0.length c0, .int .i64 a1, .string a2, .string a3, .int .i64 a4, .int .i64 a5] w fun e w' => e = .returned (.tuple #[.int .i64 r1, .int .i64 r2]) ∧ Below w.heap.size w w' := by
  have HR0 := Aside0.mk hr0
  have HC0 := Aside0.mk hc0
  clear hr0 hc0
  have HB := Aside0.mk (Below.refl w.heap.size w)
  have H : ((customsref04_At.f k l0 a2 a4).bind fun bt240 => (if bt240.2 = 0 then ((customsref04_At.f k l0 a3 a4).bind fun bt242 => (if bt242.2 = 0 then ((customsref02_Amount.f a1).bind fun t244 => (if t244 = true then (if a5 < 0 then (customsref04_Cross.j0 k a1 a5 bt240.1 bt242.1 true) else (customsref04_Cross.j0 k a1 a5 bt240.1 bt242.1 (decide (a5 > 3)))) else (customsref04_Cross.j0 k a1 a5 bt240.1 bt242.1 true))) else (some (0, bt242.2)))) else (some (0, bt240.2)))) = some (r1, r2) := h
  clear h
  replace H := Option.bind_eq_some_iff.mp H
  obtain ⟨⟨t240, t241⟩, A70, H⟩ := H
  replace H : (if t241 = 0 then ((customsref04_At.f k l0 a3 a4).bind fun bt242 => (if bt242.2 = 0 then ((customsref02_Amount.f a1).bind fun t244 => (if t244 = true then (if a5 < 0 then (customsref04_Cross.j0 k a1 a5 t240 bt242.1 true) else (customsref04_Cross.j0 k a1 a5 t240 bt242.1 (decide (a5 > 3)))) else (customsref04_Cross.j0 k a1 a5 t240 bt242.1 true))) else (some (0, bt242.2)))) else (some (0, t241))) = some (r1, r2) := H
  have A7 := Aside0.mk A70
  clear A70
  by_cases c8 : t241 = 0
  · rw [if_pos c8] at H
    have c8b0 : (t241 == 0) = true := beq_iff_eq.mpr c8
    have c8b1 : (t241 != 0) = false := bne_eq_false_iff_eq.mpr c8
    clear c8
    replace H := Option.bind_eq_some_iff.mp H
    obtain ⟨⟨t242, t243⟩, A90, H⟩ := H
    replace H : (if t243 = 0 then ((customsref02_Amount.f a1).bind fun t244 => (if t244 = true then (if a5 < 0 then (customsref04_Cross.j0 k a1 a5 t240 t242 true) else (customsref04_Cross.j0 k a1 a5 t240 t242 (decide (a5 > 3)))) else (customsref04_Cross.j0 k a1 a5 t240 t242 true))) else (some (0, t243))) = some (r1, r2) := H
    have A9 := Aside0.mk A90
    clear A90
    by_cases c10 : t243 = 0
    · rw [if_pos c10] at H
      have c10b0 : (t243 == 0) = true := beq_iff_eq.mpr c10
      have c10b1 : (t243 != 0) = false := bne_eq_false_iff_eq.mpr c10
      clear c10
      have HC11 := Aside0.mk H
      clear H
      go_enter Try.func21, Try.ntmps21
      go_upto_region 7 with (first | ((with_reducible refine gate_callee (f := 17) rfl ?_); refine goesL_ (some 22) rfl rfl Try.func17 (by kernel_rfl) rfl #[.slice A0 l0.length c0, .string a2, .int .i64 a4] rfl (by (try simp only [List.map_toArray, List.map_cons, List.map_nil]); first | done | rfl | (simp only [List.length_drop, List.length_take]; rfl)) ?_; (with_reducible refine (customsref04_At.calls k _ _ l0 a2 a4 t240 t241 _ ?side1 ?side2 A7.out).mono ?_); (case side1 => repeat (first | exact HR0.out | (with_reducible refine Kd.C_alloc ?_ _) | (with_reducible refine Kd.C_drewN ?_ _) | (with_reducible refine Kd.C_drew ?_))); (case side2 => exact HC0.out); rintro e w12 ⟨rfl, hb⟩; refine ⟨_, rfl, ?_⟩; have n0_ := Aside0.mk (below_step (by repeat (first | (with_reducible first | exact HB.out | apply below_alloc | apply pw_below_drewN | apply below_drew1) | exact HB.out)) hb); clear HB; have HB := n0_; clear n0_; (try clear hb); (try clear hb2); (try clear hk); (try clear hi)) | ((with_reducible refine gate_callee (f := 17) rfl ?_); refine goesL_ (some 32) rfl rfl Try.func17 (by kernel_rfl) rfl #[.slice A0 l0.length c0, .string a3, .int .i64 a4] rfl (by (try simp only [List.map_toArray, List.map_cons, List.map_nil]); first | done | rfl | (simp only [List.length_drop, List.length_take]; rfl)) ?_; (with_reducible refine (customsref04_At.calls k _ _ l0 a3 a4 t242 t243 _ ?side1 ?side2 A9.out).mono ?_); (case side1 => repeat (first | exact (Kd.C_below HR0.out HB.out) | (with_reducible refine Kd.C_alloc ?_ _) | (with_reducible refine Kd.C_drewN ?_ _) | (with_reducible refine Kd.C_drew ?_))); (case side2 => exact HC0.out); rintro e w13 ⟨rfl, hb⟩; refine ⟨_, rfl, ?_⟩; have n0_ := Aside0.mk (below_step (by repeat (first | (with_reducible first | exact HB.out | apply below_alloc | apply pw_below_drewN | apply below_drew1) | exact HB.out)) hb); clear HB; have HB := n0_; clear n0_; (try clear hb); (try clear hb2); (try clear hk); (try clear hi)))
      (try simp only [Act.put, List.setIfInBounds_toArray, List.set_cons_zero, List.set_cons_succ])
      go_cut [48] (fun v48 wc => ∃ (kq : Nat) (x48_10 : Bool), v48 = .bool x48_10 ∧ Aside0 (customsref04_Cross.j0 kq a1 a5 t240 t242 x48_10 = some (r1, r2)) ∧ Aside0 (kq ≤ k) ∧ Aside0 (Below w.heap.size w wc))
      case first =>
        have H := HC11.out
        clear HC11
        replace H := Option.bind_eq_some_iff.mp H
        obtain ⟨t244, A140, H⟩ := H
        replace H : (if t244 = true then (if a5 < 0 then (customsref04_Cross.j0 k a1 a5 t240 t242 true) else (customsref04_Cross.j0 k a1 a5 t240 t242 (decide (a5 > 3)))) else (customsref04_Cross.j0 k a1 a5 t240 t242 true)) = some (r1, r2) := H
        have A14 := Aside0.mk A140
        clear A140
        by_cases c15 : t244 = true
        · subst c15
          have H1 : (if a5 < 0 then (customsref04_Cross.j0 k a1 a5 t240 t242 true) else (customsref04_Cross.j0 k a1 a5 t240 t242 (decide (a5 > 3)))) = some (r1, r2) := by rw [if_pos rfl] at H; exact H
          clear H
          have H := H1
          clear H1
          by_cases c16 : a5 < 0
          · rw [if_pos c16] at H
            have c16b0 : decide (a5 < 0) = true := decide_eq_true c16
            clear c16
            (first | rw [c16b0] | (simp only [i64_w, i32_w]; rw [c16b0]) | skip)
            have H' := Aside0.mk H
            clear H
            go_wp2_with (first | ((with_reducible refine gate_callee (f := 30) rfl ?_); refine goesL_ (some 39) rfl rfl Try.func30 (by kernel_rfl) rfl #[.int .i64 a1] rfl (by (try simp only [List.map_toArray, List.map_cons, List.map_nil]); first | done | rfl | (simp only [List.length_drop, List.length_take]; rfl)) ?_; (with_reducible refine (customsref02_Amount.calls a1 true _ A14.out).mono ?_); rintro e w' ⟨rfl, ⟨nd, rfl⟩⟩; refine ⟨_, rfl, ?_⟩))
            go_meet
            case rel => exact ⟨_, (true), (by first | rfl | (simp; done) | (simp [*]; done)), H', ⟨by first | omega | exact Nat.le_refl _⟩, ⟨by repeat (first | (with_reducible first | exact HB.out | apply below_alloc | apply pw_below_drewN | apply below_drew1) | exact HB.out)⟩⟩
          · rw [if_neg c16] at H
            have c16b0 : decide (a5 < 0) = false := decide_eq_false c16
            clear c16
            (first | rw [c16b0] | (simp only [i64_w, i32_w]; rw [c16b0]) | skip)
            have H' := Aside0.mk H
            clear H
            go_wp2_with (first | ((with_reducible refine gate_callee (f := 30) rfl ?_); refine goesL_ (some 39) rfl rfl Try.func30 (by kernel_rfl) rfl #[.int .i64 a1] rfl (by (try simp only [List.map_toArray, List.map_cons, List.map_nil]); first | done | rfl | (simp only [List.length_drop, List.length_take]; rfl)) ?_; (with_reducible refine (customsref02_Amount.calls a1 true _ A14.out).mono ?_); rintro e w' ⟨rfl, ⟨nd, rfl⟩⟩; refine ⟨_, rfl, ?_⟩))
            go_meet
            case rel => exact ⟨_, (decide (a5 > 3)), (by first | rfl | (simp; done) | (simp [*]; done)), H', ⟨by first | omega | exact Nat.le_refl _⟩, ⟨by repeat (first | (with_reducible first | exact HB.out | apply below_alloc | apply pw_below_drewN | apply below_drew1) | exact HB.out)⟩⟩
        · replace c15 := Bool.eq_false_iff.mpr c15
          subst c15
          have H1 : (customsref04_Cross.j0 k a1 a5 t240 t242 true) = some (r1, r2) := by rw [if_neg (show ¬ (false = true) by decide)] at H; exact H
          clear H
          have H := H1
          clear H1
          have H' := Aside0.mk H
          clear H
          go_wp2_with (first | ((with_reducible refine gate_callee (f := 30) rfl ?_); refine goesL_ (some 39) rfl rfl Try.func30 (by kernel_rfl) rfl #[.int .i64 a1] rfl (by (try simp only [List.map_toArray, List.map_cons, List.map_nil]); first | done | rfl | (simp only [List.length_drop, List.length_take]; rfl)) ?_; (with_reducible refine (customsref02_Amount.calls a1 false _ A14.out).mono ?_); rintro e w' ⟨rfl, ⟨nd, rfl⟩⟩; refine ⟨_, rfl, ?_⟩))
          go_meet
          case rel => exact ⟨_, (true), (by first | rfl | (simp; done) | (simp [*]; done)), H', ⟨by first | omega | exact Nat.le_refl _⟩, ⟨by repeat (first | (with_reducible first | exact HB.out | apply below_alloc | apply pw_below_drewN | apply below_drew1) | exact HB.out)⟩⟩
      case rest =>
        clear HC11
        try clear c1
        try clear c2
        try clear p2
        try clear c3
        try clear c8
        try clear c8b0
        try clear c8b1
        try clear c10
        try clear c10b0
        try clear c10b1
        try clear c15
        try clear c16
        try clear c16b0
        obtain ⟨kq, x48_10, rfl, HA, HJ10, HB⟩ := hcut
        cases kq with
        | zero => exact absurd HA.out (by simp [customsref04_Cross.j0])
        | succ kj10 =>
          have H := HA.out
          clear HA
          simp only [customsref04_Cross.j0] at H
          by_cases c17 : x48_10 = true
          · subst c17
            have H1 : (some (0, 2)) = some (r1, r2) := by rw [if_pos rfl] at H; exact H
            clear H
            have H := H1
            clear H1
            simp only [Option.some.injEq, Prod.mk.injEq] at H
            obtain ⟨rfl, rfl⟩ := H
            go_wp2
            go_ret2
            exact ⟨by first | rfl | (simp [errW_none, errW_some] <;> rfl) | (simp [*, errW_none, errW_some] <;> rfl) | (simp (disch := first | assumption | omega) only [Int.tdiv_eq_ediv_of_nonneg, Int.tmod_eq_emod_of_nonneg]; rfl), by repeat (first | (with_reducible first | exact HB.out | apply below_alloc | apply pw_below_drewN | apply below_drew1) | exact HB.out)⟩
          · replace c17 := Bool.eq_false_iff.mpr c17
            subst c17
            have H1 : ((customsref01_MulDiv.f kj10 (IntKind.u64.wrap (mx a1 (wrap64 (-a1)))) (IntKind.u64.wrap (t240)) (IntKind.u64.wrap (t242)) a5).bind fun bt245 => (if bt245.2 = 0 then (customsref04_Cross.j1 kj10 a1 bt245.1 (decide (bt245.1 > 1000000000000))) else (customsref04_Cross.j1 kj10 a1 bt245.1 true))) = some (r1, r2) := by rw [if_neg (show ¬ (false = true) by decide)] at H; exact H
            clear H
            have H := H1
            clear H1
            obtain ⟨ji18, hji18⟩ : ∃ j_ : Int, (mx a1 (wrap64 (-a1))) = j_ := ⟨_, rfl⟩
            replace H : ((customsref01_MulDiv.f kj10 (IntKind.u64.wrap (ji18)) (IntKind.u64.wrap (t240)) (IntKind.u64.wrap (t242)) a5).bind fun bt245 => (if bt245.2 = 0 then (customsref04_Cross.j1 kj10 a1 bt245.1 (decide (bt245.1 > 1000000000000))) else (customsref04_Cross.j1 kj10 a1 bt245.1 true))) = some (r1, r2) := by first | (rw [hji18] at H; exact H) | (simp only [hji18] at H ⊢; exact H)
            have hji18_ : (if a1 < (wrap64 (-a1)) then (wrap64 (-a1)) else a1) = ji18 := hji18
            replace H := Option.bind_eq_some_iff.mp H
            obtain ⟨⟨t245, t246⟩, A190, H⟩ := H
            replace H : (if t246 = 0 then (customsref04_Cross.j1 kj10 a1 t245 (decide (t245 > 1000000000000))) else (customsref04_Cross.j1 kj10 a1 t245 true)) = some (r1, r2) := H
            have A19 := Aside0.mk A190
            clear A190
            have HC20 := Aside0.mk H
            clear H
            go_upto_region 10 with (first | ((with_reducible refine gate_callee (f := 31) rfl ?_); refine goesL_ (some 60) rfl rfl Try.func31 (by kernel_rfl) rfl #[.int .u64 (IntKind.u64.wrap (ji18)), .int .u64 (IntKind.u64.wrap (t240)), .int .u64 (IntKind.u64.wrap (t242)), .int .i64 a5] rfl (by (try simp only [List.map_toArray, List.map_cons, List.map_nil]); first | done | (simp only [hji18]; rfl) | rfl | (simp only [List.length_drop, List.length_take]; rfl)) ?_; (with_reducible refine (customsref01_MulDiv.calls kj10 (IntKind.u64.wrap (ji18)) (IntKind.u64.wrap (t240)) (IntKind.u64.wrap (t242)) a5 t245 t246 _ A19.out).mono ?_); rintro e w21 ⟨rfl, hb⟩; refine ⟨_, rfl, ?_⟩; have n0_ := Aside0.mk (below_step (by repeat (first | (with_reducible first | exact HB.out | apply below_alloc | apply pw_below_drewN | apply below_drew1) | exact HB.out)) hb); clear HB; have HB := n0_; clear n0_; (try clear hb); (try clear hb2); (try clear hk); (try clear hi)))
            (try simp only [Act.put, List.setIfInBounds_toArray, List.set_cons_zero, List.set_cons_succ])
            go_cut [68] (fun v68 wc => ∃ (kq : Nat) (x68_19 : Bool), v68 = .bool x68_19 ∧ Aside0 (customsref04_Cross.j1 kq a1 t245 x68_19 = some (r1, r2)) ∧ Aside0 (kq ≤ kj10) ∧ Aside0 (Below w.heap.size w wc))
            case first =>
              have H := HC20.out
              clear HC20
              by_cases c22 : t246 = 0
              · rw [if_pos c22] at H
                have c22b0 : (t246 == 0) = true := beq_iff_eq.mpr c22
                have c22b1 : (t246 != 0) = false := bne_eq_false_iff_eq.mpr c22
                clear c22
                (first | rw [c22b0] | (simp only [i64_w, i32_w]; rw [c22b0]) | skip)
                have H' := Aside0.mk H
                clear H
                go_wp2
                go_meet
                case rel => exact ⟨_, (decide (t245 > 1000000000000)), (by first | rfl | (simp; done) | (simp [*]; done)), H', ⟨by have := HJ10.out; first | omega | exact Nat.le_refl _⟩, ⟨by repeat (first | (with_reducible first | exact HB.out | apply below_alloc | apply pw_below_drewN | apply below_drew1) | exact HB.out)⟩⟩
              · rw [if_neg c22] at H
                have c22b0 : (t246 == 0) = false := beq_eq_false_iff_ne.mpr c22
                have c22b1 : (t246 != 0) = true := bne_iff_ne.mpr c22
                (first | rw [c22b0] | (simp only [i64_w, i32_w]; rw [c22b0]) | skip)
                have H' := Aside0.mk H
                clear H
                go_wp2
                go_meet
                case rel => exact ⟨_, (true), (by first | rfl | (simp; done) | (simp [*]; done)), H', ⟨by have := HJ10.out; first | omega | exact Nat.le_refl _⟩, ⟨by repeat (first | (with_reducible first | exact HB.out | apply below_alloc | apply pw_below_drewN | apply below_drew1) | exact HB.out)⟩⟩
            case rest =>
              clear HC20
              try clear c1
              try clear c2
              try clear p2
              try clear c3
              try clear p6
              try clear c8
              try clear c8b0
              try clear c8b1
              try clear c10
              try clear c10b0
              try clear c10b1
              try clear c15
              try clear c16
              try clear c16b0
              try clear c17
              try clear c21
              try clear c22
              try clear c22b0
              try clear c22b1
              try clear p2
              obtain ⟨kq, x68_19, rfl, HA, HJ19, HB⟩ := hcut
              cases kq with
              | zero => exact absurd HA.out (by simp [customsref04_Cross.j1])
              | succ kj19 =>
                have H := HA.out
                clear HA
                simp only [customsref04_Cross.j1] at H
                by_cases c23 : x68_19 = true
                · subst c23
                  have H1 : (some (0, 3)) = some (r1, r2) := by rw [if_pos rfl] at H; exact H
                  clear H
                  have H := H1
                  clear H1
                  simp only [Option.some.injEq, Prod.mk.injEq] at H
                  obtain ⟨rfl, rfl⟩ := H
                  go_wp2
                  go_ret2
                  exact ⟨by first | rfl | (simp [errW_none, errW_some] <;> rfl) | (simp only [← hji18]; first | rfl | (simp [errW_none, errW_some] <;> rfl)) | (simp [*, errW_none, errW_some] <;> rfl) | (simp (disch := first | assumption | omega) only [Int.tdiv_eq_ediv_of_nonneg, Int.tmod_eq_emod_of_nonneg]; rfl), by repeat (first | (with_reducible first | exact HB.out | apply below_alloc | apply pw_below_drewN | apply below_drew1) | exact HB.out)⟩
                · replace c23 := Bool.eq_false_iff.mpr c23
                  subst c23
                  have H1 : (if a1 < 0 then (some (wrap64 (-(wrap64 (t245))), 0)) else (some (wrap64 (t245), 0))) = some (r1, r2) := by rw [if_neg (show ¬ (false = true) by decide)] at H; exact H
                  clear H
                  have H := H1
                  clear H1
                  by_cases c24 : a1 < 0
                  · rw [if_pos c24] at H
                    have c24b0 : decide (a1 < 0) = true := decide_eq_true c24
                    clear c24
                    simp only [Option.some.injEq, Prod.mk.injEq] at H
                    obtain ⟨rfl, rfl⟩ := H
                    go_wp2
                    go_ret2
                    exact ⟨by first | rfl | (simp [errW_none, errW_some] <;> rfl) | (simp only [← hji18]; first | rfl | (simp [errW_none, errW_some] <;> rfl)) | (simp [*, errW_none, errW_some] <;> rfl) | (simp (disch := first | assumption | omega) only [Int.tdiv_eq_ediv_of_nonneg, Int.tmod_eq_emod_of_nonneg]; rfl), by repeat (first | (with_reducible first | exact HB.out | apply below_alloc | apply pw_below_drewN | apply below_drew1) | exact HB.out)⟩
                  · rw [if_neg c24] at H
                    have c24b0 : decide (a1 < 0) = false := decide_eq_false c24
                    clear c24
                    simp only [Option.some.injEq, Prod.mk.injEq] at H
                    obtain ⟨rfl, rfl⟩ := H
                    go_wp2
                    go_ret2
                    exact ⟨by first | rfl | (simp [errW_none, errW_some] <;> rfl) | (simp only [← hji18]; first | rfl | (simp [errW_none, errW_some] <;> rfl)) | (simp [*, errW_none, errW_some] <;> rfl) | (simp (disch := first | assumption | omega) only [Int.tdiv_eq_ediv_of_nonneg, Int.tmod_eq_emod_of_nonneg]; rfl), by repeat (first | (with_reducible first | exact HB.out | apply below_alloc | apply pw_below_drewN | apply below_drew1) | exact HB.out)⟩
    · rw [if_neg c10] at H
      have c10b0 : (t243 == 0) = false := beq_eq_false_iff_ne.mpr c10
      have c10b1 : (t243 != 0) = true := bne_iff_ne.mpr c10
      simp only [Option.some.injEq, Prod.mk.injEq] at H
      obtain ⟨rfl, rfl⟩ := H
      go_enter Try.func21, Try.ntmps21
      go_wp2_with (first | ((with_reducible refine gate_callee (f := 17) rfl ?_); refine goesL_ (some 22) rfl rfl Try.func17 (by kernel_rfl) rfl #[.slice A0 l0.length c0, .string a2, .int .i64 a4] rfl (by (try simp only [List.map_toArray, List.map_cons, List.map_nil]); first | done | rfl | (simp only [List.length_drop, List.length_take]; rfl)) ?_; (with_reducible refine (customsref04_At.calls k _ _ l0 a2 a4 t240 t241 _ ?side1 ?side2 A7.out).mono ?_); (case side1 => repeat (first | exact HR0.out | (with_reducible refine Kd.C_alloc ?_ _) | (with_reducible refine Kd.C_drewN ?_ _) | (with_reducible refine Kd.C_drew ?_))); (case side2 => exact HC0.out); rintro e w25 ⟨rfl, hb⟩; refine ⟨_, rfl, ?_⟩; have n0_ := Aside0.mk (below_step (by repeat (first | (with_reducible first | exact HB.out | apply below_alloc | apply pw_below_drewN | apply below_drew1) | exact HB.out)) hb); clear HB; have HB := n0_; clear n0_; (try clear hb); (try clear hb2); (try clear hk); (try clear hi)) | ((with_reducible refine gate_callee (f := 17) rfl ?_); refine goesL_ (some 32) rfl rfl Try.func17 (by kernel_rfl) rfl #[.slice A0 l0.length c0, .string a3, .int .i64 a4] rfl (by (try simp only [List.map_toArray, List.map_cons, List.map_nil]); first | done | rfl | (simp only [List.length_drop, List.length_take]; rfl)) ?_; (with_reducible refine (customsref04_At.calls k _ _ l0 a3 a4 t242 t243 _ ?side1 ?side2 A9.out).mono ?_); (case side1 => repeat (first | exact (Kd.C_below HR0.out HB.out) | (with_reducible refine Kd.C_alloc ?_ _) | (with_reducible refine Kd.C_drewN ?_ _) | (with_reducible refine Kd.C_drew ?_))); (case side2 => exact HC0.out); rintro e w26 ⟨rfl, hb⟩; refine ⟨_, rfl, ?_⟩; have n0_ := Aside0.mk (below_step (by repeat (first | (with_reducible first | exact HB.out | apply below_alloc | apply pw_below_drewN | apply below_drew1) | exact HB.out)) hb); clear HB; have HB := n0_; clear n0_; (try clear hb); (try clear hb2); (try clear hk); (try clear hi)))
      go_ret2
      exact ⟨by first | rfl | (simp [errW_none, errW_some] <;> rfl) | (simp [*, errW_none, errW_some] <;> rfl) | (simp (disch := first | assumption | omega) only [Int.tdiv_eq_ediv_of_nonneg, Int.tmod_eq_emod_of_nonneg]; rfl), by repeat (first | (with_reducible first | exact HB.out | apply below_alloc | apply pw_below_drewN | apply below_drew1) | exact HB.out)⟩
  · rw [if_neg c8] at H
    have c8b0 : (t241 == 0) = false := beq_eq_false_iff_ne.mpr c8
    have c8b1 : (t241 != 0) = true := bne_iff_ne.mpr c8
    simp only [Option.some.injEq, Prod.mk.injEq] at H
    obtain ⟨rfl, rfl⟩ := H
    go_enter Try.func21, Try.ntmps21
    go_wp2_with (first | ((with_reducible refine gate_callee (f := 17) rfl ?_); refine goesL_ (some 22) rfl rfl Try.func17 (by kernel_rfl) rfl #[.slice A0 l0.length c0, .string a2, .int .i64 a4] rfl (by (try simp only [List.map_toArray, List.map_cons, List.map_nil]); first | done | rfl | (simp only [List.length_drop, List.length_take]; rfl)) ?_; (with_reducible refine (customsref04_At.calls k _ _ l0 a2 a4 t240 t241 _ ?side1 ?side2 A7.out).mono ?_); (case side1 => repeat (first | exact HR0.out | (with_reducible refine Kd.C_alloc ?_ _) | (with_reducible refine Kd.C_drewN ?_ _) | (with_reducible refine Kd.C_drew ?_))); (case side2 => exact HC0.out); rintro e w27 ⟨rfl, hb⟩; refine ⟨_, rfl, ?_⟩; have n0_ := Aside0.mk (below_step (by repeat (first | (with_reducible first | exact HB.out | apply below_alloc | apply pw_below_drewN | apply below_drew1) | exact HB.out)) hb); clear HB; have HB := n0_; clear n0_; (try clear hb); (try clear hb2); (try clear hk); (try clear hi)))
    go_ret2
    exact ⟨by first | rfl | (simp [errW_none, errW_some] <;> rfl) | (simp [*, errW_none, errW_some] <;> rfl) | (simp (disch := first | assumption | omega) only [Int.tdiv_eq_ediv_of_nonneg, Int.tmod_eq_emod_of_nonneg]; rfl), by repeat (first | (with_reducible first | exact HB.out | apply below_alloc | apply pw_below_drewN | apply below_drew1) | exact HB.out)⟩

end Go.Proofs.Ytpmdlhncfggjkaa.PX
end
section
namespace Go.Proofs.Ytpmdlhncfggjkaa.PX
open Go.RowKit Go.Proofs.YtpmdlhncfggjkaaW.PrintWords Go.Proofs.YtpmdlhncfggjkaaW.PrintLast Go.Proofs.YtpmdlhncfggjkaaW.PrintMore
attribute [local go_sem] max2_int min2_int max_two min_two max_three min_three max_four min_four   -- for this text's walks alone
set_option linter.unusedVariables false
set_option linter.unusedSimpArgs false

/-! ### customsref04_Convert: function 19 -/
def customsref04_Convert.f (k : Nat) (l0 : List (S25)) (a1 : Int) (a2 : ByteArray) (a3 : Int) (a4 : Int) : Option (Int × Int) := (customsref04_Cross.f k l0 a1 a2 (⟨#[69, 85, 82]⟩ : ByteArray) a3 a4).bind fun bt247 => (some (bt247.1, bt247.2))
set_option maxHeartbeats 8000000 in
set_option maxRecDepth 100000 in
theorem customsref04_Convert.calls (k : Nat) (A0 : Option Addr) (c0 : Nat) (l0 : List (S25)) (a1 : Int) (a2 : ByteArray) (a3 : Int) (a4 : Int) (r1 : Int) (r2 : Int) (w : World) (hr0 : Kd.C k25 w A0 l0.length l0) (hc0 : l0.length ≤ c0) (h : customsref04_Convert.f k l0 a1 a2 a3 a4 = some (r1, r2)) :
    Calls Try.prog 19 #[.slice A0 l0.length c0, .int .i64 a1, .string a2, .int .i64 a3, .int .i64 a4] w fun e w' => e = .returned (.tuple #[.int .i64 r1, .int .i64 r2]) ∧ Below w.heap.size w w' := by
  have HR0 := Aside0.mk hr0
  have HC0 := Aside0.mk hc0
  clear hr0 hc0
  have HB := Aside0.mk (Below.refl w.heap.size w)
  have H : ((customsref04_Cross.f k l0 a1 a2 (⟨#[69, 85, 82]⟩ : ByteArray) a3 a4).bind fun bt247 => (some (bt247.1, bt247.2))) = some (r1, r2) := h
  clear h
  replace H := Option.bind_eq_some_iff.mp H
  obtain ⟨⟨t247, t248⟩, A60, H⟩ := H
  replace H : (some (t247, t248)) = some (r1, r2) := H
  have A6 := Aside0.mk A60
  clear A60
  simp only [Option.some.injEq, Prod.mk.injEq] at H
  obtain ⟨rfl, rfl⟩ := H
  go_enter Try.func19, Try.ntmps19
  go_wp2_with (first | ((with_reducible refine gate_callee (f := 21) rfl ?_); refine goesL_ (some 17) rfl rfl Try.func21 (by kernel_rfl) rfl #[.slice A0 l0.length c0, .int .i64 a1, .string a2, .string (⟨#[69, 85, 82]⟩ : ByteArray), .int .i64 a3, .int .i64 a4] rfl (by (try simp only [List.map_toArray, List.map_cons, List.map_nil]); first | done | rfl | (simp only [List.length_drop, List.length_take]; rfl)) ?_; (with_reducible refine (customsref04_Cross.calls k _ _ l0 a1 a2 (⟨#[69, 85, 82]⟩ : ByteArray) a3 a4 t247 t248 _ ?side1 ?side2 A6.out).mono ?_); (case side1 => repeat (first | exact HR0.out | (with_reducible refine Kd.C_alloc ?_ _) | (with_reducible refine Kd.C_drewN ?_ _) | (with_reducible refine Kd.C_drew ?_))); (case side2 => exact HC0.out); rintro e w7 ⟨rfl, hb⟩; refine ⟨_, rfl, ?_⟩; have n0_ := Aside0.mk (below_step (by repeat (first | (with_reducible first | exact HB.out | apply below_alloc | apply pw_below_drewN | apply below_drew1) | exact HB.out)) hb); clear HB; have HB := n0_; clear n0_; (try clear hb); (try clear hb2); (try clear hk); (try clear hi)))
  go_ret2
  exact ⟨by first | rfl | (simp [errW_none, errW_some] <;> rfl) | (simp [*, errW_none, errW_some] <;> rfl) | (simp (disch := first | assumption | omega) only [Int.tdiv_eq_ediv_of_nonneg, Int.tmod_eq_emod_of_nonneg]; rfl), by repeat (first | (with_reducible first | exact HB.out | apply below_alloc | apply pw_below_drewN | apply below_drew1) | exact HB.out)⟩

end Go.Proofs.Ytpmdlhncfggjkaa.PX
end
section
namespace Go.Proofs.Ytpmdlhncfggjkaa.PX
open Go.RowKit Go.Proofs.YtpmdlhncfggjkaaW.PrintWords Go.Proofs.YtpmdlhncfggjkaaW.PrintLast Go.Proofs.YtpmdlhncfggjkaaW.PrintMore
set_option linter.unusedVariables false
set_option linter.unusedSimpArgs false

def inAmt (x : Int) : Bool := decide (-1000000000000 ≤ x) && decide (x ≤ 1000000000000)
theorem amounts_l0 (l : List Int) (hl : l.length ≤ 1000000) (n : Nat) : ∀ i : Nat, i + n = l.length → Ev (fun k => money_amounts.l0 k l (l.length : Int) i) ((l.drop i).all inAmt) := by
  induction n with
  | zero =>
    intro i hi
    refine Ev.up ?_
    simp only [money_amounts.l0]
    rw [List.drop_of_length_le (by omega)]
    exact Ev.neg (by omega) (Ev.now _)
  | succ n ih =>
    intro i hi
    refine Ev.up ?_
    simp only [money_amounts.l0]
    have e : l.drop i = rd l i :: l.drop (i + 1) := by
      rw [List.drop_eq_getElem_cons (by omega)]
      simp [rd, List.getD, show i < l.length by omega]
    rw [e, List.all_cons]
    refine Ev.pos (by omega) (Ev.pos (by omega) (Ev.pos (by omega) ?_))
    unfold inAmt
    by_cases c : rd l i < -1000000000000
    · rw [decide_eq_false (by omega)]; exact Ev.pos c (Ev.now _)
    refine Ev.neg c ?_
    by_cases d : rd l i > 1000000000000
    · rw [decide_eq_false (p := rd l i ≤ 1000000000000) (by omega), Bool.and_false]; exact Ev.pos d (Ev.now _)
    refine Ev.neg d ?_
    rw [decide_eq_true (by omega), decide_eq_true (by omega), wrap64_of (by omega) (by omega)]
    exact ih (i + 1) (by omega)
theorem amounts_ev (l : List Int) (hl : l.length ≤ 1000000) : Ev (fun k => money_amounts.f k l) (l.all inAmt) := by
  have := amounts_l0 l hl l.length 0 (by omega)
  exact this
def iabs (x : Int) : Int := if x < 0 then -x else x
theorem iabs_mx {x : Int} (h : -1000000000000 ≤ x ∧ x ≤ 1000000000000) : mx x (wrap64 (-x)) = iabs x := by
  rw [wrap64_of (by omega) (by omega)]
  unfold mx iabs; split <;> split <;> omega
/- P5.3: the converted amount, and the error -/
def signed (a : Int) (d : Int × Int) : Int × Int := if d.2 = 0 ∧ d.1 ≤ 1000000000000 then (if a < 0 then -d.1 else d.1, 0) else (0, 3)
def scaleS (a p q m : Int) : Int × Int := if a < -1000000000000 ∨ 1000000000000 < a ∨ m < 0 ∨ 3 < m then (0, 2) else signed a (divS (iabs a * p) q m)
theorem divS_pos {W c m : Int} (hW : 0 ≤ W) (hc : 0 < c) : 0 ≤ (divS W c m).1 := by
  have : 0 ≤ W / c := Int.ediv_nonneg hW (by omega)
  have h2 : 0 ≤ rdiv W c m := by unfold rdiv; split <;> omega
  unfold divS
  split
  · decide
  · split
    · decide
    · exact h2
theorem scale_ev (a p q m : Int) (hp : 1 ≤ p ∧ p ≤ 1000000000) (hq : 1 ≤ q ∧ q ≤ 1000000000) : Ev (fun k => money_Scale.f k a p q m) (scaleS a p q m) := by
  unfold money_Scale.f
  refine Ev.bind (amounts_ev [a, p, q] (by simp)) ?_
  have hamt : ([a, p, q] : List Int).all inAmt = inAmt a := by
    simp only [List.all_cons, List.all_nil, Bool.and_true]
    rw [show inAmt p = true by unfold inAmt; rw [decide_eq_true (by omega), decide_eq_true (by omega)]; rfl, show inAmt q = true by unfold inAmt; rw [decide_eq_true (by omega), decide_eq_true (by omega)]; rfl]
    simp
  rw [hamt]
  have bad : ∀ s : Int × Int, s = (0, 2) → Ev (fun k => money_Scale.j0 k a p q m true) s := fun s e => e ▸ by
    refine Ev.up ?_
    simp only [money_Scale.j0, if_true]
    exact Ev.now _
  by_cases c0 : -1000000000000 ≤ a ∧ a ≤ 1000000000000
  case neg =>
    rw [show inAmt a = false by unfold inAmt; rw [Bool.eq_false_iff]; simp only [ne_eq, Bool.and_eq_true, decide_eq_true_eq]; exact c0]
    exact Ev.neg (by decide) (bad _ (by unfold scaleS; exact if_pos (by omega)))
  rw [show inAmt a = true by unfold inAmt; rw [decide_eq_true c0.1, decide_eq_true c0.2]; rfl]
  refine Ev.pos rfl (Ev.neg (by omega) (Ev.neg (by omega) ?_))
  by_cases c1 : m < 0
  · exact Ev.pos c1 (bad _ (by unfold scaleS; exact if_pos (by omega)))
  refine Ev.neg c1 ?_
  by_cases c2 : m > 3
  · rw [decide_eq_true c2]; exact bad _ (by unfold scaleS; exact if_pos (by omega))
  rw [decide_eq_false c2]
  have e : scaleS a p q m = signed a (divS (iabs a * p) q m) := by unfold scaleS; exact if_neg (by omega)
  rw [e]
  refine Ev.up ?_
  simp only [money_Scale.j0, Bool.false_eq_true, if_false]
  have ha : 0 ≤ iabs a ∧ iabs a ≤ 1000000000000 := by unfold iabs; split <;> omega
  rw [iabs_mx c0, w64_in ha.1 (by omega), w64_in (by omega) (by omega), w64_in (by omega) (by omega)]
  refine Ev.bind (exactMulDiv_ev _ _ _ m ⟨ha.1, by omega⟩ ⟨by omega, by omega⟩ ⟨by omega, by omega⟩) ?_
  have hpos := divS_pos (m := m) (Int.mul_nonneg ha.1 (show 0 ≤ p by omega)) (show 0 < q by omega)
  generalize divS (iabs a * p) q m = d at hpos
  obtain ⟨d1, d2⟩ := d
  simp only [] at hpos
  unfold signed
  simp only []
  by_cases c3 : d2 = 0
  · refine Ev.pos c3 (Ev.up ?_)
    simp only [money_Scale.j1]
    by_cases c4 : d1 > 1000000000000
    · rw [decide_eq_true c4]
      exact Ev.as (Ev.pos rfl (Ev.now _)) (if_neg (by omega)).symm
    · rw [decide_eq_false c4, wrap64_of (x := d1) (by omega) (by omega), wrap64_of (x := -d1) (by omega) (by omega)]
      refine Ev.as (Ev.neg (by decide) ?_) (if_pos ⟨c3, by omega⟩).symm
      by_cases c5 : a < 0
      · exact Ev.as (Ev.pos c5 (Ev.now _)) (by rw [if_pos c5])
      · exact Ev.as (Ev.neg c5 (Ev.now _)) (by rw [if_neg c5])
  · refine Ev.neg c3 (Ev.up ?_)
    simp only [money_Scale.j1]
    exact Ev.as (Ev.pos trivial (Ev.now _)) (if_neg (by omega)).symm
theorem at_rate {t : List S25} {cur : ByteArray} {day : Int} (h : (atS t cur day).2 = 0) : 1 ≤ (atS t cur day).1 ∧ (atS t cur day).1 ≤ 1000000000 := by
  unfold atS at h ⊢
  by_cases c : tabErr t = 0
  · rw [if_pos c] at h ⊢
    by_cases d : day < 0 ∨ 36524 < day
    · rw [if_pos d] at h; exact absurd h (by decide)
    · rw [if_neg d] at h ⊢
      have := rate_pos c cur day t.length (Nat.le_refl _)
      rw [List.take_length] at this
      cases hr : rateOf t cur day with
      | none => rw [hr] at h; exact absurd h (by decide)
      | some v => exact this v hr
  · rw [if_neg c] at h; exact absurd h c
def crossS (t : List S25) (a : Int) (x y : ByteArray) (day m : Int) : Int × Int :=
  if (atS t x day).2 = 0 then (if (atS t y day).2 = 0 then scaleS a (atS t x day).1 (atS t y day).1 m else (0, (atS t y day).2)) else (0, (atS t x day).2)
theorem cross_ev (t : List S25) (a : Int) (x y : ByteArray) (day m : Int) (hx : x.size ≤ 140737488355327) (hy : y.size ≤ 140737488355327) : Ev (fun k => currency_Cross.f k t a x y day m) (crossS t a x y day m) := by
  unfold currency_Cross.f crossS
  refine Ev.bind (at_ev t x day hx) ?_
  by_cases c : (atS t x day).2 = 0
  · rw [if_pos c]
    refine Ev.pos c (Ev.bind (at_ev t y day hy) ?_)
    by_cases d : (atS t y day).2 = 0
    · rw [if_pos d]
      refine Ev.pos d (Ev.as (Ev.bind (scale_ev a _ _ m (at_rate c) (at_rate d)) (Ev.now _)) rfl)
    · rw [if_neg d]; exact Ev.neg d (Ev.now _)
  · rw [if_neg c]; exact Ev.neg c (Ev.now _)
theorem convert_ev (t : List S25) (a : Int) (x : ByteArray) (day m : Int) (hx : x.size ≤ 140737488355327) : Ev (fun k => currency_Convert.f k t a x day m) (crossS t a x ⟨#[69, 85, 82]⟩ day m) := by
  unfold currency_Convert.f
  exact Ev.as (Ev.bind (cross_ev t a x ⟨#[69, 85, 82]⟩ day m hx (by decide)) (Ev.now _)) rfl
theorem awake_ev : Ev (fun k => customslaw05_awake.f k) true := by
  unfold customslaw05_awake.f customslaw05_fixed.f
  simp only [Option.bind_some]
  refine Ev.bind (convert_ev _ 1000 ⟨#[85, 83, 68]⟩ 9 0 (by decide)) ?_
  refine Ev.bind (convert_ev _ 1000 ⟨#[85, 83, 68]⟩ 10 0 (by decide)) ?_
  refine Ev.bind (at_ev _ ⟨#[67, 72, 70]⟩ 10 (by decide)) ?_
  exact Ev.cst (by decide +kernel)
end Go.Proofs.Ytpmdlhncfggjkaa.PX
end
section
namespace Go.Proofs.Ytpmdlhncfggjkaa.PX
open Go.RowKit Go.Proofs.YtpmdlhncfggjkaaW.PrintWords Go.Proofs.YtpmdlhncfggjkaaW.PrintLast Go.Proofs.YtpmdlhncfggjkaaW.PrintMore
set_option linter.unusedVariables false
set_option linter.unusedSimpArgs false

/- each row is good by itself and behind its predecessor -/
def chain (p : Option S25) : List S25 → Prop
  | [] => True
  | x :: xs => okCode x.f0 = true ∧ ¬ badRow x ∧ (∀ q, p = some q → ¬ badTwo q x) ∧ chain (some x) xs
theorem chain_at : ∀ (t : List S25) (p : Option S25), chain p t → ∀ j : Nat, j < t.length → okCode (rd_T25 t j).f0 = true ∧ ¬ badRow (rd_T25 t j) ∧ (0 < j → ¬ badTwo (rd_T25 t ((j : Int) - 1)) (rd_T25 t j)) := by
  intro t
  induction t with
  | nil => intro p _ j hj; simp at hj
  | cons x xs ih =>
    intro p h j hj
    obtain ⟨h1, h2, h3, h4⟩ := h
    cases j with
    | zero => exact ⟨h1, h2, fun h => absurd h (by omega)⟩
    | succ j =>
      have e : rd_T25 (x :: xs) ((j + 1 : Nat) : Int) = rd_T25 xs j := by simp [rd_T25, List.getD]
      rw [e]
      obtain ⟨a, b, c⟩ := ih (some x) h4 j (by simpa using hj)
      refine ⟨a, b, fun _ => ?_⟩
      have e2 : ((j + 1 : Nat) : Int) - 1 = (j : Int) := by omega
      rw [e2]
      cases j with
      | zero =>
        cases xs with
        | nil => simp at hj
        | cons y ys => exact h4.2.2.1 x rfl
      | succ j =>
        have e3 : rd_T25 (x :: xs) ((j + 1 : Nat) : Int) = rd_T25 xs (((j + 1 : Nat) : Int) - 1) := by
          have : ((j + 1 : Nat) : Int) - 1 = (j : Int) := by omega
          rw [this]
          simp [rd_T25, List.getD]
        rw [e3]
        exact c (by omega)
theorem scan_all {t : List S25} {n : Nat} : ∀ {i : Int}, (∀ j : Int, i ≤ j → j < i + n → rowErr t j = 0) → scanN t n i = 0 := by
  induction n with
  | zero => intro i _; rfl
  | succ n ih =>
    intro i h
    rw [scan_ok (h i (by omega) (by omega))]
    exact ih (fun j h1 h2 => h j (by omega) (by omega))
theorem tab_chain {t : List S25} (hl : t.length ≤ 1000) (h : chain none t) : tabErr t = 0 := by
  unfold tabErr
  rw [if_neg (by omega)]
  refine scan_all fun j h1 h2 => ?_
  obtain ⟨i, rfl⟩ := Int.eq_ofNat_of_zero_le h1
  obtain ⟨a, b, c⟩ := chain_at t none h i (by omega)
  by_cases h0 : (i : Int) = 0
  · exact row0 a b h0
  · exact row00 a b h0 (c (by omega))
theorem chain_append : ∀ (a b : List S25) (p : Option S25), chain p a → (∀ p', (p' = p ∨ ∃ q ∈ a, p' = some q) → chain p' b) → chain p (a ++ b) := by
  intro a
  induction a with
  | nil => intro b p _ h; exact h p (.inl rfl)
  | cons x xs ih =>
    intro b p h hb
    obtain ⟨h1, h2, h3, h4⟩ := h
    refine ⟨h1, h2, h3, ih b (some x) h4 fun p' hp' => hb p' ?_⟩
    rcases hp' with rfl | ⟨q, hq, rfl⟩
    · exact .inr ⟨x, by simp, rfl⟩
    · exact .inr ⟨q, by simp [hq], rfl⟩
theorem src_rng (l : List Int) {m : Int} (hm : 0 < m) : 0 ≤ (srcNext l m).1 ∧ (srcNext l m).1 < m := by
  cases l with
  | nil => exact ⟨Int.le_refl _, hm⟩
  | cons x t => exact ⟨Int.emod_nonneg _ (by omega), Int.emod_lt_of_pos _ hm⟩
theorem tabRow_chain (cur : ByteArray) (hcur : okCode cur = true) (n : Nat) : ∀ (day : Int) (l : List Int) (p : Option S25), 0 ≤ day → day + 20 * n ≤ 36524 → (∀ q, p = some q → Op.bytesLess cur.toList q.f0.toList = false ∧ (cur.toList = q.f0.toList → q.f1 < day)) → chain p (tabRow cur n day l).1 := by
  induction n with
  | zero => intro day l p _ _ _; trivial
  | succ n ih =>
    intro day l p h0 h1 hp
    simp only [tabRow]
    have r1 := src_rng l (show (0 : Int) < 1000000000 by decide)
    have r2 := src_rng (srcNext l 1000000000).2 (show (0 : Int) < 20 by decide)
    refine ⟨hcur, ?_, ?_, ih _ _ _ (by omega) (by omega) ?_⟩
    · unfold badRow; simp only []; omega
    · intro q hq
      obtain ⟨a, b⟩ := hp q hq
      unfold badTwo
      simp only [a]
      intro h
      rcases h with h | ⟨h, h'⟩
      · exact absurd h (by decide)
      · have := b h; omega
    · intro q hq
      cases hq
      refine ⟨?_, fun _ => by simp only []; omega⟩
      rcases less_tri cur.toList cur.toList with h | h | h
      · exact absurd rfl h.2.1
      · exact h.2.1
      · exact absurd rfl h.2.1
theorem tabRow_mem (cur : ByteArray) (n : Nat) : ∀ (day : Int) (l : List Int), 0 ≤ day → (tabRow cur n day l).1.length = n ∧ ∀ q ∈ (tabRow cur n day l).1, q.f0 = cur ∧ 0 ≤ q.f1 ∧ q.f1 ≤ day + 20 * n := by
  induction n with
  | zero => intro day l _; exact ⟨rfl, fun q hq => absurd hq (by simp [tabRow])⟩
  | succ n ih =>
    intro day l h0
    simp only [tabRow]
    have r2 := src_rng (srcNext l 1000000000).2 (show (0 : Int) < 20 by decide)
    obtain ⟨a, b⟩ := ih (day + 1 + (srcNext (srcNext l 1000000000).2 20).1) (srcNext (srcNext l 1000000000).2 20).2 (by omega)
    refine ⟨by simp [a], fun q hq => ?_⟩
    rcases List.mem_cons.mp hq with rfl | hq
    · exact ⟨rfl, h0, by simp only []; omega⟩
    · obtain ⟨c, d, e⟩ := b q hq
      exact ⟨c, d, by omega⟩
theorem tabAll_chain : ∀ (cs : List ByteArray) (l : List Int) (p : Option S25), (∀ c ∈ cs, okCode c = true) → cs.Pairwise (fun a b => Op.bytesLess b.toList a.toList = false ∧ b.toList ≠ a.toList) → (∀ q, p = some q → ∀ c ∈ cs, Op.bytesLess c.toList q.f0.toList = false ∧ c.toList ≠ q.f0.toList) → chain p (tabAll cs l) := by
  intro cs
  induction cs with
  | nil => intro l p _ _ _; trivial
  | cons c cs ih =>
    intro l p h1 h2 h3
    simp only [tabAll]
    have r1 := src_rng l (show (0 : Int) < 20 by decide)
    have r2 := src_rng (srcNext l 20).2 (show (0 : Int) < 4 by decide)
    rw [List.pairwise_cons] at h2
    refine chain_append _ _ p (tabRow_chain c (h1 c (by simp)) _ _ _ _ r1.1 (by omega) fun q hq => ?_) ?_
    · obtain ⟨a, b⟩ := h3 q hq c (by simp)
      exact ⟨a, fun e => absurd e b⟩
    · intro p' hp'
      refine ih _ p' (fun x hx => h1 x (by simp [hx])) h2.2 fun q hq x hx => ?_
      rcases hp' with rfl | ⟨q', hq', rfl⟩
      · exact h3 q hq x (by simp [hx])
      · cases hq
        obtain ⟨e, _⟩ := (tabRow_mem c _ _ _ r1.1).2 q hq'
        rw [e]
        exact h2.1 x hx
theorem tabAll_mem : ∀ (cs : List ByteArray) (l : List Int), (tabAll cs l).length ≤ 3 * cs.length ∧ ∀ q ∈ tabAll cs l, q.f0 ∈ cs ∧ 0 ≤ q.f1 ∧ q.f1 < 100 := by
  intro cs
  induction cs with
  | nil => intro l; exact ⟨Nat.le_refl _, fun q hq => absurd hq (by simp [tabAll])⟩
  | cons c cs ih =>
    intro l
    simp only [tabAll]
    have r1 := src_rng l (show (0 : Int) < 20 by decide)
    have r2 := src_rng (srcNext l 20).2 (show (0 : Int) < 4 by decide)
    obtain ⟨a, b⟩ := tabRow_mem c (srcNext (srcNext l 20).2 4).1.toNat (srcNext l 20).1 (srcNext (srcNext l 20).2 4).2 r1.1
    obtain ⟨d, e⟩ := ih (tabRow c (srcNext (srcNext l 20).2 4).1.toNat (srcNext l 20).1 (srcNext (srcNext l 20).2 4).2).2
    refine ⟨by rw [List.length_append, a, List.length_cons]; omega, fun q hq => ?_⟩
    rcases List.mem_append.mp hq with hq | hq
    · obtain ⟨x, y, z⟩ := b q hq
      exact ⟨by rw [x]; simp, y, by omega⟩
    · obtain ⟨x, y, z⟩ := e q hq
      exact ⟨by simp [x], y, z⟩
theorem curs_ok : (∀ c ∈ curs, okCode c = true) ∧ curs.Pairwise (fun a b => Op.bytesLess b.toList a.toList = false ∧ b.toList ≠ a.toList) := by
  constructor
  · decide +kernel
  · decide +kernel
/- what is known of a made table -/
structure Made (t : List S25) : Prop where
  ok : chain none t
  len : t.length ≤ 9
  mem : ∀ q ∈ t, q.f0 ∈ curs ∧ 0 ≤ q.f1 ∧ q.f1 < 100
theorem table_is {l : List Int} (h : ∀ x ∈ l, (Lit.int .i64 x).wf = true) : ∃ t, customsmade_Table.f l = some t ∧ Made t := by
  refine ⟨_, if_pos ?_, tabAll_chain curs _ none curs_ok.1 curs_ok.2 (fun q hq => by cases hq), (tabAll_mem curs _).1, (tabAll_mem curs _).2⟩
  refine List.all_eq_true.mpr fun x hx => ?_
  have := i64_of_wf (h x hx)
  unfold rng64
  simp only [I64] at this
  simp only [Bool.and_eq_true, decide_eq_true_eq]
  omega
theorem Made.err {t : List S25} (h : Made t) : tabErr t = 0 := tab_chain (by have := h.len; omega) h.ok
theorem curs_size : ∀ c ∈ curs, c.size = 3 := by decide
theorem Made.size {t : List S25} (h : Made t) (i : Int) (h0 : 0 ≤ i) (h1 : i < t.length) : (rd_T25 t i).f0.size ≤ 9223372036854775807 := by
  obtain ⟨j, rfl⟩ := Int.eq_ofNat_of_zero_le h0
  have hm : rd_T25 t (j : Int) ∈ t := by
    have : j < t.length := by omega
    simp [rd_T25, List.getD, this]
  rw [curs_size _ (h.mem _ hm).1]
  decide
/- Within and Currency of package customsmade -/
theorem within_ev {a b : Int} (ha : I64 a) (hb : 0 < b) (hb1 : b ≤ 4611686018427387904) : customsmade_Within.f a b = some (a % b) := within_is a b ha hb hb1
theorem currency_is {a : Int} (ha : I64 a) : ∃ s, customsmade_Currency.f a = some s ∧ s.size = 3 := by
  unfold customsmade_Currency.f
  rw [within_ev ha (by decide) (by decide)]
  simp only [Option.bind_some]
  have h1 := Int.emod_nonneg a (show (5 : Int) ≠ 0 by decide)
  have h2 := Int.emod_lt_of_pos a (show (0 : Int) < 5 by decide)
  generalize a % 5 = i at h1 h2
  rw [if_pos h1, if_pos (by simp only [List.length_cons, List.length_nil]; omega)]
  refine ⟨_, rfl, ?_⟩
  have : i = 0 ∨ i = 1 ∨ i = 2 ∨ i = 3 ∨ i = 4 := by omega
  rcases this with rfl | rfl | rfl | rfl | rfl <;> rfl
end Go.Proofs.Ytpmdlhncfggjkaa.PX
end
section
namespace Go.Proofs.Ytpmdlhncfggjkaa.Pure
open Go.RowKit Go.Proofs.Ytpmdlhncfggjkaa.PX Go.Proofs.YtpmdlhncfggjkaaW.PrintWords Go.Proofs.YtpmdlhncfggjkaaW.PrintLast Go.Proofs.YtpmdlhncfggjkaaW.PrintMore
set_option linter.unusedVariables false
set_option linter.unusedSimpArgs false

theorem curs_usd : ∀ c ∈ curs, Op.bytesLess (⟨#[85, 83, 68]⟩ : ByteArray).toList c.toList = false := by decide +kernel
theorem usd_code : okCode ⟨#[85, 83, 68]⟩ = true := by decide +kernel
theorem later_ok {t : List S25} (hm : Made t) (f r : Int) (hf : 1000 ≤ f ∧ f < 1100) (hr : 1 ≤ r ∧ r ≤ 1000) : tabErr (t ++ [⟨⟨#[85, 83, 68]⟩, f, r⟩]) = 0 := by
  refine tab_chain (by have := hm.len; rw [List.length_append]; simp only [List.length_cons, List.length_nil]; omega) (chain_append t _ none hm.ok fun p' hp' => ⟨usd_code, ?_, fun q hq => ?_, trivial⟩)
  · unfold badRow; simp only []; omega
  · rcases hp' with rfl | ⟨q', hq', rfl⟩
    · cases hq
    · cases hq
      obtain ⟨h1, h2, h3⟩ := hm.mem _ hq'
      unfold badTwo
      simp only []
      rw [curs_usd _ h1]
      intro h
      rcases h with h | h
      · exact absurd h (by decide)
      · omega
theorem later_rate (t : List S25) (x : S25) (cur : ByteArray) (day : Int) (h : day < x.f1) : rateOf (t ++ [x]) cur day = rateOf t cur day := by
  unfold rateOf
  rw [List.foldl_append]
  simp only [List.foldl_cons, List.foldl_nil]
  exact if_neg (by omega)
theorem CurrencyLater : customslaw05_CurrencyLater.Pure := by
  intro l0 a1 a2 a3 a4 a5 _ _ hl h1 h2 h3 h4 h5
  refine Ev.rounds ?_
  unfold customslaw05_CurrencyLater.f
  obtain ⟨t, ht, hm⟩ := table_is hl
  obtain ⟨x, hx, hxs⟩ := currency_is (i64_of_wf h2)
  rw [ht, within_ev (i64_of_wf h3) (by decide) (by decide), within_ev (i64_of_wf h4) (by decide) (by decide), within_ev (i64_of_wf h5) (by decide) (by decide), hx]
  have hlen := hm.len
  simp only [Option.bind_some, List.nil_append, List.length_nil, List.length_cons]
  have hd0 := Int.emod_nonneg a3 (show (120 : Int) ≠ 0 by decide)
  have hd1 := Int.emod_lt_of_pos a3 (show (0 : Int) < 120 by decide)
  generalize a3 % 120 = d at hd0 hd1
  have hn0 := Int.emod_nonneg a4 (show (100 : Int) ≠ 0 by decide)
  have hn1 := Int.emod_lt_of_pos a4 (show (0 : Int) < 100 by decide)
  generalize a4 % 100 = f at hn0 hn1
  have hr0 := Int.emod_nonneg a5 (show (1000 : Int) ≠ 0 by decide)
  have hr1 := Int.emod_lt_of_pos a5 (show (0 : Int) < 1000 by decide)
  generalize a5 % 1000 = r at hr0 hr1
  generalize Int.tmod a1 1000000 = a
  rw [wrap64_of (x := 1000 + f) (by omega) (by omega), wrap64_of (x := 1 + r) (by omega) (by omega)]
  refine Ev.pos (by omega) (Ev.pos (by omega) ?_)
  refine Ev.bind (convert_ev t a x d 2 (by omega)) (Ev.bind (convert_ev _ a x d 2 (by omega)) ?_)
  have e : ∀ c : ByteArray, atS (t ++ [⟨⟨#[85, 83, 68]⟩, 1000 + f, 1 + r⟩]) c d = atS t c d := by
    intro c
    unfold atS
    rw [later_ok hm _ _ (by omega) (by omega), hm.err, later_rate _ _ _ _ (by simp only []; omega)]
  have e2 : crossS (t ++ [⟨⟨#[85, 83, 68]⟩, 1000 + f, 1 + r⟩]) a x ⟨#[69, 85, 82]⟩ d 2 = crossS t a x ⟨#[69, 85, 82]⟩ d 2 := by
    unfold crossS
    rw [e, e]
  rw [e2]
  simp only [if_true]
  exact Ev.bind awake_ev (Ev.now _)
end Go.Proofs.Ytpmdlhncfggjkaa.Pure
end
