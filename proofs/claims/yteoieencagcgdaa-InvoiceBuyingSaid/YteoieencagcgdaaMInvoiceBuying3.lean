/- Texts of this session joined by a small program: plain Lean functions with the answers of Go functions of this seat, proofs that the machine's calls come to them, and plain laws over them that the claim InvoiceBuying uses. -/
import Derived.Below
import Derived.Deep.Draws
import Derived.Deep.AppendLies
import Derived.Maps.AppendAt
import Derived.OwnWalk
import Derived.Laws.BytesArg
import Derived.Laws.MakeOwn
import Derived.Laws.OwnMore
import Derived.Deep.OwnRows
import Derived.Tactics
import Derived.Lib.ConvBytes
import Derived.Laws.Slices
import Derived.WalkKit
import Derived.KernelRfl
import Derived.RowKit3
import Derived.Deep.LoopGhost
import Derived.Deep.QuietTactic
import Derived.BigQuiet
import Derived.WideLaws
import Derived.Deep.DeepCutAuto
import Derived.Deep.CutBlock
import Derived.Deep.RegionHeld3
import Derived.Laws.Rows
import Derived.Lib.AppendStr
import Derived.ArgAppend
import Derived.Laws.IdiomCopy
import Derived.RowKit
import Derived.OrdersHeld
import Derived.Laws.BitsLemmas
import Derived.Laws.StructEq
import Derived.Test.YteoieencagcgdaaProg
import Derived.RegionTactic
import Derived.Maps.Own
import Derived.Maps.OwnOps
import Derived.Maps.OwnSet
import Derived.Laws.Externs
import Derived.WalkLawsBesides
import Derived.Deep.RegionLaw
import Derived.IntWalk
import Derived.Laws.Bits64
import Derived.Sort.Walk0
import Derived.SizedLaws
import Derived.ChangeSlices
import Derived.Test.YteoieencagcgdaaMInvoiceBuying2
section
namespace Go.Proofs.Yteoieencagcgdaa.PX
open Go.RowKit Go.Proofs.YteoieencagcgdaaW.PrintWords Go.Proofs.YteoieencagcgdaaW.PrintLast Go.Proofs.YteoieencagcgdaaW.PrintMore
attribute [local go_sem] max2_int min2_int max_two min_two max_three min_three max_four min_four
set_option linter.unusedVariables false
set_option linter.unusedSimpArgs false

mutual
def valuation_charge.j0 : Nat → Int → Bool → Int → Int → ByteArray → Int → Int → Option (Int)
  | 0, _, _, _, _, _, _, _ => none
  | k + 1, x1, x22, x168000, x168001, x168002, x168003, x168004 => if x22 = true then (some 2) else (if x168001 < 0 then (valuation_charge.j1 k true x168000 x168001 x168002 x168003 x168004) else (if x168001 > 1000000000000 then (valuation_charge.j1 k true x168000 x168001 x168002 x168003 x168004) else (if x168004 < 0 then (valuation_charge.j1 k true x168000 x168001 x168002 x168003 x168004) else (valuation_charge.j1 k (decide (x168004 ≥ x1)) x168000 x168001 x168002 x168003 x168004))))
def valuation_charge.j1 : Nat → Bool → Int → Int → ByteArray → Int → Int → Option (Int)
  | 0, _, _, _, _, _, _ => none
  | k + 1, x41, x168000, x168001, x168002, x168003, x168004 => if x41 = true then (some 2) else (if x168003 = 3 then (some 0) else (if x168004 = 0 then (some 0) else (some 2)))
end
def valuation_charge.f (k : Nat) (a0_0 : Int) (a0_1 : Int) (a0_2 : ByteArray) (a0_3 : Int) (a0_4 : Int) (a1 : Int) : Option (Int) := if a0_0 < 1 then (valuation_charge.j0 k a1 true a0_0 a0_1 a0_2 a0_3 a0_4) else (if a0_0 > 9 then (valuation_charge.j0 k a1 true a0_0 a0_1 a0_2 a0_3 a0_4) else (if a0_3 < 1 then (valuation_charge.j0 k a1 true a0_0 a0_1 a0_2 a0_3 a0_4) else (valuation_charge.j0 k a1 (decide (a0_3 > 3)) a0_0 a0_1 a0_2 a0_3 a0_4)))
set_option maxHeartbeats 8000000 in
set_option maxRecDepth 100000 in
theorem valuation_charge.calls (k : Nat) (a0_0 : Int) (a0_1 : Int) (a0_2 : ByteArray) (a0_3 : Int) (a0_4 : Int) (a1 : Int) (r : Int) (w : World) (h : valuation_charge.f k a0_0 a0_1 a0_2 a0_3 a0_4 a1 = some r) :
   Calls Try.prog 25 #[.agg #[.int .i64 a0_0, .int .i64 a0_1, .string a0_2, .int .i64 a0_3, .int .i64 a0_4], .int .i64 a1] w fun e w' => e = .returned (.int .i64 r) ∧ Below w.heap.size w w' := by
  have hu33 := Try.underlying33
  have HB := Aside0.mk (Below.refl w.heap.size w)
  have H : (if a0_0 < 1 then (valuation_charge.j0 k a1 true a0_0 a0_1 a0_2 a0_3 a0_4) else (if a0_0 > 9 then (valuation_charge.j0 k a1 true a0_0 a0_1 a0_2 a0_3 a0_4) else (if a0_3 < 1 then (valuation_charge.j0 k a1 true a0_0 a0_1 a0_2 a0_3 a0_4) else (valuation_charge.j0 k a1 (decide (a0_3 > 3)) a0_0 a0_1 a0_2 a0_3 a0_4)))) = some r := h
  clear h
  have HC3 := Aside0.mk H
  clear H
  go_enter Try.func25, Try.ntmps25
  go_upto_region 1 with (first | ((with_reducible refine gate_dst (N := 2) rfl ?_); refine boxA (N := 2) (cs := #[.int .i64 a0_0, .int .i64 a0_1, .string a0_2, .int .i64 a0_3, .int .i64 a0_4]) (t := 33) ?_; intro gb167 hg w4 hbox hb; have n0_ := hB HB hb; have n1_ := Aside0.mk (hbox); have n2_ := gW hg HB; have n3_ := gW hg HB; clear HB; have HB := n0_; have BK167 := n1_; have GW167 := n2_; have GE167 := n3_; clear n0_ n1_ n2_ n3_; clear hb hbox hg))
  (try simp only [Act.put, List.setIfInBounds_toArray, List.set_cons_zero, List.set_cons_succ])
  go_cut [22] (fun v22 wc => ∃ (kq : Nat) (x22_2 : Bool), v22 = .bool x22_2 ∧ Aside0 (valuation_charge.j0 kq a1 x22_2 a0_0 a0_1 a0_2 a0_3 a0_4 = some r) ∧ Aside0 (kq ≤ k) ∧ Aside0 (wc.heap[gb167]? = some (.cells #[.int .i64 a0_0, .int .i64 a0_1, .string a0_2, .int .i64 a0_3, .int .i64 a0_4] 33 (0, 0))) ∧ Aside0 (Below w.heap.size w wc))
  case first =>
   have H := HC3.out
   clear HC3
   by_cases c5 : a0_0 < 1
   ·rw [if_pos c5] at H
    have c5b0 : decide (a0_0 < 1) = true := decide_eq_true c5
    clear c5
    (first | rw [c5b0] | (simp only [i64_w, i32_w]; rw [c5b0]) | skip)
    have H' := Aside0.mk H
    clear H
    have hcz6_0 : w4.cell? ⟨gb167, 0, none⟩ = some (.int .i64 a0_0) := lc BK167 0
    have hcz6_1 : w4.cell? ⟨gb167, 1, none⟩ = some (.int .i64 a0_1) := lc BK167 1
    have hcz6_2 : w4.cell? ⟨gb167, 2, none⟩ = some (.string a0_2) := lc BK167 2
    have hcz6_3 : w4.cell? ⟨gb167, 3, none⟩ = some (.int .i64 a0_3) := lc BK167 3
    have hcz6_4 : w4.cell? ⟨gb167, 4, none⟩ = some (.int .i64 a0_4) := lc BK167 4
    have hfz6_0 := fz BK167 0
    have hfz6_1 := fz BK167 1
    have hfz6_2 := fz BK167 2
    have hfz6_3 := fz BK167 3
    have hfz6_4 := fz BK167 4
    go_wp2
    go_meet
    case rel => exact ⟨_, (true), (by first | rfl | (simp; done) | (simp [*]; done)), H', ⟨by first | omega | exact Nat.le_refl _⟩, ⟨aB BK167⟩, ⟨aH HB⟩⟩
   ·rw [if_neg c5] at H
    have c5b0 : decide (a0_0 < 1) = false := decide_eq_false c5
    clear c5
    (first | rw [c5b0] | (simp only [i64_w, i32_w]; rw [c5b0]) | skip)
    by_cases c7 : a0_0 > 9
    ·rw [if_pos c7] at H
     have c7b0 : decide (9 < a0_0) = true := decide_eq_true c7
     clear c7
     have H' := Aside0.mk H
     clear H
     have hcz8_0 : w4.cell? ⟨gb167, 0, none⟩ = some (.int .i64 a0_0) := lc BK167 0
     have hcz8_1 : w4.cell? ⟨gb167, 1, none⟩ = some (.int .i64 a0_1) := lc BK167 1
     have hcz8_2 : w4.cell? ⟨gb167, 2, none⟩ = some (.string a0_2) := lc BK167 2
     have hcz8_3 : w4.cell? ⟨gb167, 3, none⟩ = some (.int .i64 a0_3) := lc BK167 3
     have hcz8_4 : w4.cell? ⟨gb167, 4, none⟩ = some (.int .i64 a0_4) := lc BK167 4
     have hfz8_0 := fz BK167 0
     have hfz8_1 := fz BK167 1
     have hfz8_2 := fz BK167 2
     have hfz8_3 := fz BK167 3
     have hfz8_4 := fz BK167 4
     go_wp2
     go_meet
     case rel => exact ⟨_, (true), (by first | rfl | (simp; done) | (simp [*]; done)), H', ⟨by first | omega | exact Nat.le_refl _⟩, ⟨aB BK167⟩, ⟨aH HB⟩⟩
    ·rw [if_neg c7] at H
     have c7b0 : decide (9 < a0_0) = false := decide_eq_false c7
     clear c7
     by_cases c9 : a0_3 < 1
     ·rw [if_pos c9] at H
      have c9b0 : decide (a0_3 < 1) = true := decide_eq_true c9
      clear c9
      have H' := Aside0.mk H
      clear H
      have hcz10_0 : w4.cell? ⟨gb167, 0, none⟩ = some (.int .i64 a0_0) := lc BK167 0
      have hcz10_1 : w4.cell? ⟨gb167, 1, none⟩ = some (.int .i64 a0_1) := lc BK167 1
      have hcz10_2 : w4.cell? ⟨gb167, 2, none⟩ = some (.string a0_2) := lc BK167 2
      have hcz10_3 : w4.cell? ⟨gb167, 3, none⟩ = some (.int .i64 a0_3) := lc BK167 3
      have hcz10_4 : w4.cell? ⟨gb167, 4, none⟩ = some (.int .i64 a0_4) := lc BK167 4
      have hfz10_0 := fz BK167 0
      have hfz10_1 := fz BK167 1
      have hfz10_2 := fz BK167 2
      have hfz10_3 := fz BK167 3
      have hfz10_4 := fz BK167 4
      go_wp2
      go_meet
      case rel => exact ⟨_, (true), (by first | rfl | (simp; done) | (simp [*]; done)), H', ⟨by first | omega | exact Nat.le_refl _⟩, ⟨aB BK167⟩, ⟨aH HB⟩⟩
     ·rw [if_neg c9] at H
      have c9b0 : decide (a0_3 < 1) = false := decide_eq_false c9
      clear c9
      have H' := Aside0.mk H
      clear H
      have hcz11_0 : w4.cell? ⟨gb167, 0, none⟩ = some (.int .i64 a0_0) := lc BK167 0
      have hcz11_1 : w4.cell? ⟨gb167, 1, none⟩ = some (.int .i64 a0_1) := lc BK167 1
      have hcz11_2 : w4.cell? ⟨gb167, 2, none⟩ = some (.string a0_2) := lc BK167 2
      have hcz11_3 : w4.cell? ⟨gb167, 3, none⟩ = some (.int .i64 a0_3) := lc BK167 3
      have hcz11_4 : w4.cell? ⟨gb167, 4, none⟩ = some (.int .i64 a0_4) := lc BK167 4
      have hfz11_0 := fz BK167 0
      have hfz11_1 := fz BK167 1
      have hfz11_2 := fz BK167 2
      have hfz11_3 := fz BK167 3
      have hfz11_4 := fz BK167 4
      go_wp2
      go_meet
      case rel => exact ⟨_, (decide (a0_3 > 3)), (by first | rfl | (simp; done) | (simp [*]; done)), H', ⟨by first | omega | exact Nat.le_refl _⟩, ⟨aB BK167⟩, ⟨aH HB⟩⟩
  case rest =>
   clear HC3
   try clear c2
   try clear p2
   try clear c5
   try clear c5b0
   try clear c7
   try clear c7b0
   try clear c9
   try clear c9b0
   try clear hcz10_0
   try clear hcz10_1
   try clear hcz10_2
   try clear hcz10_3
   try clear hcz10_4
   try clear hcz11_0
   try clear hcz11_1
   try clear hcz11_2
   try clear hcz11_3
   try clear hcz11_4
   try clear hcz6_0
   try clear hcz6_1
   try clear hcz6_2
   try clear hcz6_3
   try clear hcz6_4
   try clear hcz8_0
   try clear hcz8_1
   try clear hcz8_2
   try clear hcz8_3
   try clear hcz8_4
   try clear hfz10_0
   try clear hfz10_1
   try clear hfz10_2
   try clear hfz10_3
   try clear hfz10_4
   try clear hfz11_0
   try clear hfz11_1
   try clear hfz11_2
   try clear hfz11_3
   try clear hfz11_4
   try clear hfz6_0
   try clear hfz6_1
   try clear hfz6_2
   try clear hfz6_3
   try clear hfz6_4
   try clear hfz8_0
   try clear hfz8_1
   try clear hfz8_2
   try clear hfz8_3
   try clear hfz8_4
   obtain ⟨kq, x22_2, rfl, HA, HJ2, BK167, HB⟩ := hcut
   cases kq with
   | zero => exact absurd HA.out (by simp [valuation_charge.j0])
   | succ kj2 =>
    have H := HA.out
    clear HA
    simp only [valuation_charge.j0] at H
    by_cases c12 : x22_2 = true
    ·subst c12
     have H1 : (some 2) = some r := by rw [if_pos rfl] at H; exact H
     clear H
     have H := H1
     clear H1
     obtain rfl := Option.some.inj H
     simp only [Option.some.injEq, Prod.mk.injEq] at H
     obtain ⟨rfl⟩ := H
     go_wp2
     go_ret
     exact ⟨by first | rfl | (simp [errW_none, errW_some] <;> rfl) | (simp [*, errW_none, errW_some] <;> rfl) | (simp (disch := first | assumption | omega) only [Int.tdiv_eq_ediv_of_nonneg, Int.tmod_eq_emod_of_nonneg]; rfl), aH HB⟩
    ·replace c12 := Bool.eq_false_iff.mpr c12
     subst c12
     have H1 : (if a0_1 < 0 then (valuation_charge.j1 kj2 true a0_0 a0_1 a0_2 a0_3 a0_4) else (if a0_1 > 1000000000000 then (valuation_charge.j1 kj2 true a0_0 a0_1 a0_2 a0_3 a0_4) else (if a0_4 < 0 then (valuation_charge.j1 kj2 true a0_0 a0_1 a0_2 a0_3 a0_4) else (valuation_charge.j1 kj2 (decide (a0_4 ≥ a1)) a0_0 a0_1 a0_2 a0_3 a0_4)))) = some r := by rw [if_neg (show ¬ (false = true) by decide)] at H; exact H
     clear H
     have H := H1
     clear H1
     have HC13 := Aside0.mk H
     clear H
     go_upto_region 3 with (fail)
     go_cut [41] (fun v41 wc => ∃ (kq : Nat) (x41_12 : Bool), v41 = .bool x41_12 ∧ Aside0 (valuation_charge.j1 kq x41_12 a0_0 a0_1 a0_2 a0_3 a0_4 = some r) ∧ Aside0 (kq ≤ kj2) ∧ Aside0 (wc.heap[gb167]? = some (.cells #[.int .i64 a0_0, .int .i64 a0_1, .string a0_2, .int .i64 a0_3, .int .i64 a0_4] 33 (0, 0))) ∧ Aside0 (Below w.heap.size w wc))
     case first =>
      have H := HC13.out
      clear HC13
      by_cases c14 : a0_1 < 0
      ·rw [if_pos c14] at H
       have c14b0 : decide (a0_1 < 0) = true := decide_eq_true c14
       clear c14
       (first | rw [c14b0] | (simp only [i64_w, i32_w]; rw [c14b0]) | skip)
       have H' := Aside0.mk H
       clear H
       have hcz15_0 : wc.cell? ⟨gb167, 0, none⟩ = some (.int .i64 a0_0) := lc BK167 0
       have hcz15_1 : wc.cell? ⟨gb167, 1, none⟩ = some (.int .i64 a0_1) := lc BK167 1
       have hcz15_2 : wc.cell? ⟨gb167, 2, none⟩ = some (.string a0_2) := lc BK167 2
       have hcz15_3 : wc.cell? ⟨gb167, 3, none⟩ = some (.int .i64 a0_3) := lc BK167 3
       have hcz15_4 : wc.cell? ⟨gb167, 4, none⟩ = some (.int .i64 a0_4) := lc BK167 4
       have hfz15_0 := fz BK167 0
       have hfz15_1 := fz BK167 1
       have hfz15_2 := fz BK167 2
       have hfz15_3 := fz BK167 3
       have hfz15_4 := fz BK167 4
       go_wp2
       go_meet
       case rel => exact ⟨_, (true), (by first | rfl | (simp; done) | (simp [*]; done)), H', ⟨by have := HJ2.out; first | omega | exact Nat.le_refl _⟩, ⟨aB BK167⟩, ⟨aH HB⟩⟩
      ·rw [if_neg c14] at H
       have c14b0 : decide (a0_1 < 0) = false := decide_eq_false c14
       clear c14
       (first | rw [c14b0] | (simp only [i64_w, i32_w]; rw [c14b0]) | skip)
       by_cases c16 : a0_1 > 1000000000000
       ·rw [if_pos c16] at H
        have c16b0 : decide (1000000000000 < a0_1) = true := decide_eq_true c16
        clear c16
        have H' := Aside0.mk H
        clear H
        have hcz17_0 : wc.cell? ⟨gb167, 0, none⟩ = some (.int .i64 a0_0) := lc BK167 0
        have hcz17_1 : wc.cell? ⟨gb167, 1, none⟩ = some (.int .i64 a0_1) := lc BK167 1
        have hcz17_2 : wc.cell? ⟨gb167, 2, none⟩ = some (.string a0_2) := lc BK167 2
        have hcz17_3 : wc.cell? ⟨gb167, 3, none⟩ = some (.int .i64 a0_3) := lc BK167 3
        have hcz17_4 : wc.cell? ⟨gb167, 4, none⟩ = some (.int .i64 a0_4) := lc BK167 4
        have hfz17_0 := fz BK167 0
        have hfz17_1 := fz BK167 1
        have hfz17_2 := fz BK167 2
        have hfz17_3 := fz BK167 3
        have hfz17_4 := fz BK167 4
        go_wp2
        go_meet
        case rel => exact ⟨_, (true), (by first | rfl | (simp; done) | (simp [*]; done)), H', ⟨by have := HJ2.out; first | omega | exact Nat.le_refl _⟩, ⟨aB BK167⟩, ⟨aH HB⟩⟩
       ·rw [if_neg c16] at H
        have c16b0 : decide (1000000000000 < a0_1) = false := decide_eq_false c16
        clear c16
        by_cases c18 : a0_4 < 0
        ·rw [if_pos c18] at H
         have c18b0 : decide (a0_4 < 0) = true := decide_eq_true c18
         clear c18
         have H' := Aside0.mk H
         clear H
         have hcz19_0 : wc.cell? ⟨gb167, 0, none⟩ = some (.int .i64 a0_0) := lc BK167 0
         have hcz19_1 : wc.cell? ⟨gb167, 1, none⟩ = some (.int .i64 a0_1) := lc BK167 1
         have hcz19_2 : wc.cell? ⟨gb167, 2, none⟩ = some (.string a0_2) := lc BK167 2
         have hcz19_3 : wc.cell? ⟨gb167, 3, none⟩ = some (.int .i64 a0_3) := lc BK167 3
         have hcz19_4 : wc.cell? ⟨gb167, 4, none⟩ = some (.int .i64 a0_4) := lc BK167 4
         have hfz19_0 := fz BK167 0
         have hfz19_1 := fz BK167 1
         have hfz19_2 := fz BK167 2
         have hfz19_3 := fz BK167 3
         have hfz19_4 := fz BK167 4
         go_wp2
         go_meet
         case rel => exact ⟨_, (true), (by first | rfl | (simp; done) | (simp [*]; done)), H', ⟨by have := HJ2.out; first | omega | exact Nat.le_refl _⟩, ⟨aB BK167⟩, ⟨aH HB⟩⟩
        ·rw [if_neg c18] at H
         have c18b0 : decide (a0_4 < 0) = false := decide_eq_false c18
         clear c18
         have H' := Aside0.mk H
         clear H
         have hcz20_0 : wc.cell? ⟨gb167, 0, none⟩ = some (.int .i64 a0_0) := lc BK167 0
         have hcz20_1 : wc.cell? ⟨gb167, 1, none⟩ = some (.int .i64 a0_1) := lc BK167 1
         have hcz20_2 : wc.cell? ⟨gb167, 2, none⟩ = some (.string a0_2) := lc BK167 2
         have hcz20_3 : wc.cell? ⟨gb167, 3, none⟩ = some (.int .i64 a0_3) := lc BK167 3
         have hcz20_4 : wc.cell? ⟨gb167, 4, none⟩ = some (.int .i64 a0_4) := lc BK167 4
         have hfz20_0 := fz BK167 0
         have hfz20_1 := fz BK167 1
         have hfz20_2 := fz BK167 2
         have hfz20_3 := fz BK167 3
         have hfz20_4 := fz BK167 4
         go_wp2
         go_meet
         case rel => exact ⟨_, (decide (a0_4 ≥ a1)), (by first | rfl | (simp; done) | (simp [*]; done)), H', ⟨by have := HJ2.out; first | omega | exact Nat.le_refl _⟩, ⟨aB BK167⟩, ⟨aH HB⟩⟩
     case rest =>
      clear HC13
      try clear c1
      try clear c2
      try clear p2
      try clear c5
      try clear c5b0
      try clear c7
      try clear c7b0
      try clear c9
      try clear c9b0
      try clear c12
      try clear c14
      try clear c14b0
      try clear c16
      try clear c16b0
      try clear c18
      try clear c18b0
      try clear hcz10_0
      try clear hcz10_1
      try clear hcz10_2
      try clear hcz10_3
      try clear hcz10_4
      try clear hcz11_0
      try clear hcz11_1
      try clear hcz11_2
      try clear hcz11_3
      try clear hcz11_4
      try clear hcz15_0
      try clear hcz15_1
      try clear hcz15_2
      try clear hcz15_3
      try clear hcz15_4
      try clear hcz17_0
      try clear hcz17_1
      try clear hcz17_2
      try clear hcz17_3
      try clear hcz17_4
      try clear hcz19_0
      try clear hcz19_1
      try clear hcz19_2
      try clear hcz19_3
      try clear hcz19_4
      try clear hcz20_0
      try clear hcz20_1
      try clear hcz20_2
      try clear hcz20_3
      try clear hcz20_4
      try clear hcz6_0
      try clear hcz6_1
      try clear hcz6_2
      try clear hcz6_3
      try clear hcz6_4
      try clear hcz8_0
      try clear hcz8_1
      try clear hcz8_2
      try clear hcz8_3
      try clear hcz8_4
      try clear hfz10_0
      try clear hfz10_1
      try clear hfz10_2
      try clear hfz10_3
      try clear hfz10_4
      try clear hfz11_0
      try clear hfz11_1
      try clear hfz11_2
      try clear hfz11_3
      try clear hfz11_4
      try clear hfz15_0
      try clear hfz15_1
      try clear hfz15_2
      try clear hfz15_3
      try clear hfz15_4
      try clear hfz17_0
      try clear hfz17_1
      try clear hfz17_2
      try clear hfz17_3
      try clear hfz17_4
      try clear hfz19_0
      try clear hfz19_1
      try clear hfz19_2
      try clear hfz19_3
      try clear hfz19_4
      try clear hfz20_0
      try clear hfz20_1
      try clear hfz20_2
      try clear hfz20_3
      try clear hfz20_4
      try clear hfz6_0
      try clear hfz6_1
      try clear hfz6_2
      try clear hfz6_3
      try clear hfz6_4
      try clear hfz8_0
      try clear hfz8_1
      try clear hfz8_2
      try clear hfz8_3
      try clear hfz8_4
      try clear p2
      obtain ⟨kq, x41_12, rfl, HA, HJ12, BK167, HB⟩ := hcut
      cases kq with
      | zero => exact absurd HA.out (by simp [valuation_charge.j1])
      | succ kj12 =>
       have H := HA.out
       clear HA
       simp only [valuation_charge.j1] at H
       by_cases c21 : x41_12 = true
       ·subst c21
        have H1 : (some 2) = some r := by rw [if_pos rfl] at H; exact H
        clear H
        have H := H1
        clear H1
        obtain rfl := Option.some.inj H
        simp only [Option.some.injEq, Prod.mk.injEq] at H
        obtain ⟨rfl⟩ := H
        go_wp2
        go_ret
        exact ⟨by first | rfl | (simp [errW_none, errW_some] <;> rfl) | (simp [*, errW_none, errW_some] <;> rfl) | (simp (disch := first | assumption | omega) only [Int.tdiv_eq_ediv_of_nonneg, Int.tmod_eq_emod_of_nonneg]; rfl), aH HB⟩
       ·replace c21 := Bool.eq_false_iff.mpr c21
        subst c21
        have H1 : (if a0_3 = 3 then (some 0) else (if a0_4 = 0 then (some 0) else (some 2))) = some r := by rw [if_neg (show ¬ (false = true) by decide)] at H; exact H
        clear H
        have H := H1
        clear H1
        by_cases c22 : a0_3 = 3
        ·rw [if_pos c22] at H
         have c22b0 : (a0_3 == 3) = true := beq_iff_eq.mpr c22
         have c22b1 : (a0_3 != 3) = false := bne_eq_false_iff_eq.mpr c22
         clear c22
         obtain rfl := Option.some.inj H
         simp only [Option.some.injEq, Prod.mk.injEq] at H
         obtain ⟨rfl⟩ := H
         have hcz23_0 : wc.cell? ⟨gb167, 0, none⟩ = some (.int .i64 a0_0) := lc BK167 0
         have hcz23_1 : wc.cell? ⟨gb167, 1, none⟩ = some (.int .i64 a0_1) := lc BK167 1
         have hcz23_2 : wc.cell? ⟨gb167, 2, none⟩ = some (.string a0_2) := lc BK167 2
         have hcz23_3 : wc.cell? ⟨gb167, 3, none⟩ = some (.int .i64 a0_3) := lc BK167 3
         have hcz23_4 : wc.cell? ⟨gb167, 4, none⟩ = some (.int .i64 a0_4) := lc BK167 4
         have hfz23_0 := fz BK167 0
         have hfz23_1 := fz BK167 1
         have hfz23_2 := fz BK167 2
         have hfz23_3 := fz BK167 3
         have hfz23_4 := fz BK167 4
         go_wp2
         go_ret
         exact ⟨by first | rfl | (simp [errW_none, errW_some] <;> rfl) | (simp [*, errW_none, errW_some] <;> rfl) | (simp (disch := first | assumption | omega) only [Int.tdiv_eq_ediv_of_nonneg, Int.tmod_eq_emod_of_nonneg]; rfl), aH HB⟩
        ·rw [if_neg c22] at H
         have c22b0 : (a0_3 == 3) = false := beq_eq_false_iff_ne.mpr c22
         have c22b1 : (a0_3 != 3) = true := bne_iff_ne.mpr c22
         by_cases c24 : a0_4 = 0
         ·rw [if_pos c24] at H
          have c24b0 : (a0_4 == 0) = true := beq_iff_eq.mpr c24
          have c24b1 : (a0_4 != 0) = false := bne_eq_false_iff_eq.mpr c24
          clear c24
          obtain rfl := Option.some.inj H
          simp only [Option.some.injEq, Prod.mk.injEq] at H
          obtain ⟨rfl⟩ := H
          have hcz25_0 : wc.cell? ⟨gb167, 0, none⟩ = some (.int .i64 a0_0) := lc BK167 0
          have hcz25_1 : wc.cell? ⟨gb167, 1, none⟩ = some (.int .i64 a0_1) := lc BK167 1
          have hcz25_2 : wc.cell? ⟨gb167, 2, none⟩ = some (.string a0_2) := lc BK167 2
          have hcz25_3 : wc.cell? ⟨gb167, 3, none⟩ = some (.int .i64 a0_3) := lc BK167 3
          have hcz25_4 : wc.cell? ⟨gb167, 4, none⟩ = some (.int .i64 a0_4) := lc BK167 4
          have hfz25_0 := fz BK167 0
          have hfz25_1 := fz BK167 1
          have hfz25_2 := fz BK167 2
          have hfz25_3 := fz BK167 3
          have hfz25_4 := fz BK167 4
          go_wp2
          go_ret
          exact ⟨by first | rfl | (simp [errW_none, errW_some] <;> rfl) | (simp [*, errW_none, errW_some] <;> rfl) | (simp (disch := first | assumption | omega) only [Int.tdiv_eq_ediv_of_nonneg, Int.tmod_eq_emod_of_nonneg]; rfl), aH HB⟩
         ·rw [if_neg c24] at H
          have c24b0 : (a0_4 == 0) = false := beq_eq_false_iff_ne.mpr c24
          have c24b1 : (a0_4 != 0) = true := bne_iff_ne.mpr c24
          obtain rfl := Option.some.inj H
          simp only [Option.some.injEq, Prod.mk.injEq] at H
          obtain ⟨rfl⟩ := H
          have hcz26_0 : wc.cell? ⟨gb167, 0, none⟩ = some (.int .i64 a0_0) := lc BK167 0
          have hcz26_1 : wc.cell? ⟨gb167, 1, none⟩ = some (.int .i64 a0_1) := lc BK167 1
          have hcz26_2 : wc.cell? ⟨gb167, 2, none⟩ = some (.string a0_2) := lc BK167 2
          have hcz26_3 : wc.cell? ⟨gb167, 3, none⟩ = some (.int .i64 a0_3) := lc BK167 3
          have hcz26_4 : wc.cell? ⟨gb167, 4, none⟩ = some (.int .i64 a0_4) := lc BK167 4
          have hfz26_0 := fz BK167 0
          have hfz26_1 := fz BK167 1
          have hfz26_2 := fz BK167 2
          have hfz26_3 := fz BK167 3
          have hfz26_4 := fz BK167 4
          go_wp2
          go_ret
          exact ⟨by first | rfl | (simp [errW_none, errW_some] <;> rfl) | (simp [*, errW_none, errW_some] <;> rfl) | (simp (disch := first | assumption | omega) only [Int.tdiv_eq_ediv_of_nonneg, Int.tmod_eq_emod_of_nonneg]; rfl), aH HB⟩

end Go.Proofs.Yteoieencagcgdaa.PX
end
section
namespace Go.Proofs.Yteoieencagcgdaa.PX
open Go.RowKit Go.Proofs.YteoieencagcgdaaW.PrintWords Go.Proofs.YteoieencagcgdaaW.PrintLast Go.Proofs.YteoieencagcgdaaW.PrintMore
attribute [local go_sem] max2_int min2_int max_two min_two max_three min_three max_four min_four
set_option linter.unusedVariables false
set_option linter.unusedSimpArgs false

mutual
def valuation_Validate.j0 : Nat → Bool → ByteArray → Int → List (S35) → List (S33) → Option (Int)
  | 0, _, _, _, _, _ => none
  | k + 1, x23, x169000, x169001, x169002, x169003 => if x23 = true then (some 8) else (if x169001 < 0 then (valuation_Validate.j1 k true x169000 x169001 x169002 x169003) else (valuation_Validate.j1 k (decide (x169001 > 36524)) x169000 x169001 x169002 x169003))
def valuation_Validate.j1 : Nat → Bool → ByteArray → Int → List (S35) → List (S33) → Option (Int)
  | 0, _, _, _, _, _ => none
  | k + 1, x31, x169000, x169001, x169002, x169003 => if x31 = true then (some 2) else (valuation_Validate.l0 k x169002 (x169002.length : Int) 0 x169000 x169001 x169002 x169003)
def valuation_Validate.l0 : Nat → List (S35) → Int → Int → ByteArray → Int → List (S35) → List (S33) → Option (Int)
  | 0, _, _, _, _, _, _, _ => none
  | k + 1, x33, x34, x35, x169000, x169001, x169002, x169003 => if x35 < x34 then (if 0 ≤ x35 then (if x35 < (x33.length : Int) then (if ((rd_T35 x33 x35).f0) < 0 then (some 2) else (if ((rd_T35 x33 x35).f0) > 1000000000000 then (some 2) else (if ((rd_T35 x33 x35).f1) < 0 then (some 2) else (if ((rd_T35 x33 x35).f1) > 1000000000 then (some 2) else (valuation_Validate.l0 k x33 x34 (wrap64 (x35 + 1)) x169000 x169001 x169002 x169003))))) else (none)) else (none)) else (valuation_Validate.l1 k x169003 (x169003.length : Int) 0 x169000 x169001 x169002 x169003)
def valuation_Validate.l1 : Nat → List (S33) → Int → Int → ByteArray → Int → List (S35) → List (S33) → Option (Int)
  | 0, _, _, _, _, _, _, _ => none
  | k + 1, x59, x60, x61, x169000, x169001, x169002, x169003 => if x61 < x60 then (if 0 ≤ x61 then (if x61 < (x59.length : Int) then ((valuation_charge.f k ((rd_T33 x59 x61).f0) ((rd_T33 x59 x61).f1) ((rd_T33 x59 x61).f2) ((rd_T33 x59 x61).f3) ((rd_T33 x59 x61).f4) (x169002.length : Int)).bind fun t173 => (if t173 = 0 then (valuation_Validate.l1 k x59 x60 (wrap64 (x61 + 1)) x169000 x169001 x169002 x169003) else (some t173))) else (none)) else (none)) else (some 0)
end
def valuation_Validate.f (k : Nat) (a0_0 : ByteArray) (a0_1 : Int) (l0_2 : List (S35)) (l0_3 : List (S33)) : Option (Int) := if (l0_2.length : Int) = 0 then (valuation_Validate.j0 k true a0_0 a0_1 l0_2 l0_3) else (if (l0_2.length : Int) > 100 then (valuation_Validate.j0 k true a0_0 a0_1 l0_2 l0_3) else (valuation_Validate.j0 k (decide ((l0_3.length : Int) > 50)) a0_0 a0_1 l0_2 l0_3))
set_option maxHeartbeats 8000000 in
set_option maxRecDepth 100000 in
theorem valuation_Validate.calls (k : Nat) (a0_0 : ByteArray) (a0_1 : Int) (A0_2 : Option Addr) (c0_2 : Nat) (l0_2 : List (S35)) (A0_3 : Option Addr) (c0_3 : Nat) (l0_3 : List (S33)) (r : Int) (w : World) (hr0_2 : Kd.C k35 w A0_2 l0_2.length l0_2) (hc0_2 : l0_2.length ≤ c0_2) (hr0_3 : Kd.C k33 w A0_3 l0_3.length l0_3) (hc0_3 : l0_3.length ≤ c0_3) (h : valuation_Validate.f k a0_0 a0_1 l0_2 l0_3 = some r) :
   Calls Try.prog 11 #[.agg #[.string a0_0, .int .i64 a0_1, .slice A0_2 l0_2.length c0_2, .slice A0_3 l0_3.length c0_3]] w fun e w' => e = .returned (.int .i64 r) ∧ Below w.heap.size w w' := by
  have hu25 := Try.underlying25
  have hu35 := Try.underlying35
  have hu33 := Try.underlying33
  have HR0_2 := Aside0.mk hr0_2
  have HC0_2 := Aside0.mk hc0_2
  clear hr0_2 hc0_2
  have HR0_3 := Aside0.mk hr0_3
  have HC0_3 := Aside0.mk hc0_3
  clear hr0_3 hc0_3
  have HB := Aside0.mk (Below.refl w.heap.size w)
  have H : (if (l0_2.length : Int) = 0 then (valuation_Validate.j0 k true a0_0 a0_1 l0_2 l0_3) else (if (l0_2.length : Int) > 100 then (valuation_Validate.j0 k true a0_0 a0_1 l0_2 l0_3) else (valuation_Validate.j0 k (decide ((l0_3.length : Int) > 50)) a0_0 a0_1 l0_2 l0_3))) = some r := h
  clear h
  have HC2 := Aside0.mk H
  clear H
  go_enter Try.func11, Try.ntmps11
  go_upto_region 1 with (first | ((with_reducible refine gate_dst (N := 1) rfl ?_); (try (refine gate_guard (by rfl) ?_; dsimp only)); refine boxA (N := 1) (cs := #[.string a0_0, .int .i64 a0_1, .slice A0_2 l0_2.length c0_2, .slice A0_3 l0_3.length c0_3]) (t := 25) ?_; intro gb168 hg w3 hbox hb; have n0_ := hB HB hb; have n1_ := Aside0.mk (hbox); have n2_ := gW hg HB; have n3_ := gW hg HB; clear HB; have HB := n0_; have BK168 := n1_; have GW168 := n2_; have GE168 := n3_; clear n0_ n1_ n2_ n3_; clear hb hbox hg))
  (try simp only [Act.put, List.setIfInBounds_toArray, List.set_cons_zero, List.set_cons_succ])
  go_cut [23] (fun v23 wc => ∃ (kq : Nat) (x23_1 : Bool), v23 = .bool x23_1 ∧ Aside0 (valuation_Validate.j0 kq x23_1 a0_0 a0_1 l0_2 l0_3 = some r) ∧ Aside0 (kq ≤ k) ∧ Aside0 (wc.heap[gb168]? = some (.cells #[.string a0_0, .int .i64 a0_1, (.slice A0_2 l0_2.length c0_2), (.slice A0_3 l0_3.length c0_3)] 25 (0, 0))) ∧ Aside0 (Below w.heap.size w wc))
  case first =>
   have H := HC2.out
   clear HC2
   by_cases c4 : (l0_2.length : Int) = 0
   ·rw [if_pos c4] at H
    have c4b0 : ((l0_2.length : Int) == 0) = true := beq_iff_eq.mpr c4
    have c4b1 : ((l0_2.length : Int) != 0) = false := bne_eq_false_iff_eq.mpr c4
    clear c4
    (first | rw [c4b0] | (simp only [i64_w, i32_w]; rw [c4b0]) | skip)
    have H' := Aside0.mk H
    clear H
    have hcz5_0 : w3.cell? ⟨gb168, 0, none⟩ = some (.string a0_0) := lc BK168 0
    have hcz5_1 : w3.cell? ⟨gb168, 1, none⟩ = some (.int .i64 a0_1) := lc BK168 1
    have hcz5_2 : w3.cell? ⟨gb168, 2, none⟩ = some (.slice A0_2 l0_2.length c0_2) := lc BK168 2
    have hcz5_3 : w3.cell? ⟨gb168, 3, none⟩ = some (.slice A0_3 l0_3.length c0_3) := lc BK168 3
    have hfz5_0 := fz BK168 0
    have hfz5_1 := fz BK168 1
    have hfz5_2 := fz BK168 2
    have hfz5_3 := fz BK168 3
    go_wp2
    go_meet
    case rel => exact ⟨_, (true), (by first | rfl | (simp; done) | (simp [*]; done)), H', ⟨by first | omega | exact Nat.le_refl _⟩, ⟨aB BK168⟩, ⟨aH HB⟩⟩
   ·rw [if_neg c4] at H
    have c4b0 : ((l0_2.length : Int) == 0) = false := beq_eq_false_iff_ne.mpr c4
    have c4b1 : ((l0_2.length : Int) != 0) = true := bne_iff_ne.mpr c4
    have c4b2 : ¬ (l0_2 = []) := fun h_ => c4 (by rw [h_]; rfl)
    (first | rw [c4b0] | (simp only [i64_w, i32_w]; rw [c4b0]) | skip)
    by_cases c6 : (l0_2.length : Int) > 100
    ·rw [if_pos c6] at H
     have c6b0 : decide (100 < (l0_2.length : Int)) = true := decide_eq_true c6
     have c6b1 : decide (100 < l0_2.length) = true := decide_eq_true (by omega)
     clear c6
     have H' := Aside0.mk H
     clear H
     have hcz7_0 : w3.cell? ⟨gb168, 0, none⟩ = some (.string a0_0) := lc BK168 0
     have hcz7_1 : w3.cell? ⟨gb168, 1, none⟩ = some (.int .i64 a0_1) := lc BK168 1
     have hcz7_2 : w3.cell? ⟨gb168, 2, none⟩ = some (.slice A0_2 l0_2.length c0_2) := lc BK168 2
     have hcz7_3 : w3.cell? ⟨gb168, 3, none⟩ = some (.slice A0_3 l0_3.length c0_3) := lc BK168 3
     have hfz7_0 := fz BK168 0
     have hfz7_1 := fz BK168 1
     have hfz7_2 := fz BK168 2
     have hfz7_3 := fz BK168 3
     go_wp2
     go_meet
     case rel => exact ⟨_, (true), (by first | rfl | (simp; done) | (simp [*]; done)), H', ⟨by first | omega | exact Nat.le_refl _⟩, ⟨aB BK168⟩, ⟨aH HB⟩⟩
    ·rw [if_neg c6] at H
     have c6b0 : decide (100 < (l0_2.length : Int)) = false := decide_eq_false c6
     have c6b1 : decide (100 < l0_2.length) = false := decide_eq_false (by omega)
     clear c6
     have H' := Aside0.mk H
     clear H
     have hcz8_0 : w3.cell? ⟨gb168, 0, none⟩ = some (.string a0_0) := lc BK168 0
     have hcz8_1 : w3.cell? ⟨gb168, 1, none⟩ = some (.int .i64 a0_1) := lc BK168 1
     have hcz8_2 : w3.cell? ⟨gb168, 2, none⟩ = some (.slice A0_2 l0_2.length c0_2) := lc BK168 2
     have hcz8_3 : w3.cell? ⟨gb168, 3, none⟩ = some (.slice A0_3 l0_3.length c0_3) := lc BK168 3
     have hfz8_0 := fz BK168 0
     have hfz8_1 := fz BK168 1
     have hfz8_2 := fz BK168 2
     have hfz8_3 := fz BK168 3
     go_wp2
     go_meet
     case rel => exact ⟨_, (decide ((l0_3.length : Int) > 50)), (by first | rfl | (simp; done) | (simp [*]; done)), H', ⟨by first | omega | exact Nat.le_refl _⟩, ⟨aB BK168⟩, ⟨aH HB⟩⟩
  case rest =>
   clear HC2
   try clear c1
   try clear p2
   try clear c4
   try clear c4b0
   try clear c4b1
   try clear c4b2
   try clear c6
   try clear c6b0
   try clear c6b1
   try clear hcz5_0
   try clear hcz5_1
   try clear hcz5_2
   try clear hcz5_3
   try clear hcz7_0
   try clear hcz7_1
   try clear hcz7_2
   try clear hcz7_3
   try clear hcz8_0
   try clear hcz8_1
   try clear hcz8_2
   try clear hcz8_3
   try clear hfz5_0
   try clear hfz5_1
   try clear hfz5_2
   try clear hfz5_3
   try clear hfz7_0
   try clear hfz7_1
   try clear hfz7_2
   try clear hfz7_3
   try clear hfz8_0
   try clear hfz8_1
   try clear hfz8_2
   try clear hfz8_3
   obtain ⟨kq, x23_1, rfl, HA, HJ1, BK168, HB⟩ := hcut
   cases kq with
   | zero => exact absurd HA.out (by simp [valuation_Validate.j0])
   | succ kj1 =>
    have H := HA.out
    clear HA
    simp only [valuation_Validate.j0] at H
    by_cases c9 : x23_1 = true
    ·subst c9
     have H1 : (some 8) = some r := by rw [if_pos rfl] at H; exact H
     clear H
     have H := H1
     clear H1
     obtain rfl := Option.some.inj H
     simp only [Option.some.injEq, Prod.mk.injEq] at H
     obtain ⟨rfl⟩ := H
     go_wp2
     go_ret
     exact ⟨by first | rfl | (simp [errW_none, errW_some] <;> rfl) | (simp [*, errW_none, errW_some] <;> rfl) | (simp (disch := first | assumption | omega) only [Int.tdiv_eq_ediv_of_nonneg, Int.tmod_eq_emod_of_nonneg]; rfl), aH HB⟩
    ·replace c9 := Bool.eq_false_iff.mpr c9
     subst c9
     have H1 : (if a0_1 < 0 then (valuation_Validate.j1 kj1 true a0_0 a0_1 l0_2 l0_3) else (valuation_Validate.j1 kj1 (decide (a0_1 > 36524)) a0_0 a0_1 l0_2 l0_3)) = some r := by rw [if_neg (show ¬ (false = true) by decide)] at H; exact H
     clear H
     have H := H1
     clear H1
     have HC10 := Aside0.mk H
     clear H
     go_upto_region 3 with (fail)
     go_cut [31] (fun v31 wc => ∃ (kq : Nat) (x31_9 : Bool), v31 = .bool x31_9 ∧ Aside0 (valuation_Validate.j1 kq x31_9 a0_0 a0_1 l0_2 l0_3 = some r) ∧ Aside0 (kq ≤ kj1) ∧ Aside0 (wc.heap[gb168]? = some (.cells #[.string a0_0, .int .i64 a0_1, (.slice A0_2 l0_2.length c0_2), (.slice A0_3 l0_3.length c0_3)] 25 (0, 0))) ∧ Aside0 (Below w.heap.size w wc))
     case first =>
      have H := HC10.out
      clear HC10
      by_cases c11 : a0_1 < 0
      ·rw [if_pos c11] at H
       have c11b0 : decide (a0_1 < 0) = true := decide_eq_true c11
       clear c11
       (first | rw [c11b0] | (simp only [i64_w, i32_w]; rw [c11b0]) | skip)
       have H' := Aside0.mk H
       clear H
       have hcz12_0 : wc.cell? ⟨gb168, 0, none⟩ = some (.string a0_0) := lc BK168 0
       have hcz12_1 : wc.cell? ⟨gb168, 1, none⟩ = some (.int .i64 a0_1) := lc BK168 1
       have hcz12_2 : wc.cell? ⟨gb168, 2, none⟩ = some (.slice A0_2 l0_2.length c0_2) := lc BK168 2
       have hcz12_3 : wc.cell? ⟨gb168, 3, none⟩ = some (.slice A0_3 l0_3.length c0_3) := lc BK168 3
       have hfz12_0 := fz BK168 0
       have hfz12_1 := fz BK168 1
       have hfz12_2 := fz BK168 2
       have hfz12_3 := fz BK168 3
       go_wp2
       go_meet
       case rel => exact ⟨_, (true), (by first | rfl | (simp; done) | (simp [*]; done)), H', ⟨by have := HJ1.out; first | omega | exact Nat.le_refl _⟩, ⟨aB BK168⟩, ⟨aH HB⟩⟩
      ·rw [if_neg c11] at H
       have c11b0 : decide (a0_1 < 0) = false := decide_eq_false c11
       clear c11
       (first | rw [c11b0] | (simp only [i64_w, i32_w]; rw [c11b0]) | skip)
       have H' := Aside0.mk H
       clear H
       have hcz13_0 : wc.cell? ⟨gb168, 0, none⟩ = some (.string a0_0) := lc BK168 0
       have hcz13_1 : wc.cell? ⟨gb168, 1, none⟩ = some (.int .i64 a0_1) := lc BK168 1
       have hcz13_2 : wc.cell? ⟨gb168, 2, none⟩ = some (.slice A0_2 l0_2.length c0_2) := lc BK168 2
       have hcz13_3 : wc.cell? ⟨gb168, 3, none⟩ = some (.slice A0_3 l0_3.length c0_3) := lc BK168 3
       have hfz13_0 := fz BK168 0
       have hfz13_1 := fz BK168 1
       have hfz13_2 := fz BK168 2
       have hfz13_3 := fz BK168 3
       go_wp2
       go_meet
       case rel => exact ⟨_, (decide (a0_1 > 36524)), (by first | rfl | (simp; done) | (simp [*]; done)), H', ⟨by have := HJ1.out; first | omega | exact Nat.le_refl _⟩, ⟨aB BK168⟩, ⟨aH HB⟩⟩
     case rest =>
      clear HC10
      try clear c1
      try clear p2
      try clear c4
      try clear c4b0
      try clear c4b1
      try clear c4b2
      try clear c6
      try clear c6b0
      try clear c6b1
      try clear c9
      try clear c11
      try clear c11b0
      try clear hcz12_0
      try clear hcz12_1
      try clear hcz12_2
      try clear hcz12_3
      try clear hcz13_0
      try clear hcz13_1
      try clear hcz13_2
      try clear hcz13_3
      try clear hcz5_0
      try clear hcz5_1
      try clear hcz5_2
      try clear hcz5_3
      try clear hcz7_0
      try clear hcz7_1
      try clear hcz7_2
      try clear hcz7_3
      try clear hcz8_0
      try clear hcz8_1
      try clear hcz8_2
      try clear hcz8_3
      try clear hfz12_0
      try clear hfz12_1
      try clear hfz12_2
      try clear hfz12_3
      try clear hfz13_0
      try clear hfz13_1
      try clear hfz13_2
      try clear hfz13_3
      try clear hfz5_0
      try clear hfz5_1
      try clear hfz5_2
      try clear hfz5_3
      try clear hfz7_0
      try clear hfz7_1
      try clear hfz7_2
      try clear hfz7_3
      try clear hfz8_0
      try clear hfz8_1
      try clear hfz8_2
      try clear hfz8_3
      try clear p2
      obtain ⟨kq, x31_9, rfl, HA, HJ9, BK168, HB⟩ := hcut
      cases kq with
      | zero => exact absurd HA.out (by simp [valuation_Validate.j1])
      | succ kj9 =>
       have H := HA.out
       clear HA
       simp only [valuation_Validate.j1] at H
       by_cases c14 : x31_9 = true
       ·subst c14
        have H1 : (some 2) = some r := by rw [if_pos rfl] at H; exact H
        clear H
        have H := H1
        clear H1
        obtain rfl := Option.some.inj H
        simp only [Option.some.injEq, Prod.mk.injEq] at H
        obtain ⟨rfl⟩ := H
        go_wp2
        go_ret
        exact ⟨by first | rfl | (simp [errW_none, errW_some] <;> rfl) | (simp [*, errW_none, errW_some] <;> rfl) | (simp (disch := first | assumption | omega) only [Int.tdiv_eq_ediv_of_nonneg, Int.tmod_eq_emod_of_nonneg]; rfl), aH HB⟩
       ·replace c14 := Bool.eq_false_iff.mpr c14
        subst c14
        have H1 : (valuation_Validate.l0 kj9 l0_2 (l0_2.length : Int) 0 a0_0 a0_1 l0_2 l0_3) = some r := by rw [if_neg (show ¬ (false = true) by decide)] at H; exact H
        clear H
        have H := H1
        clear H1
        have H' := Aside0.mk H
        clear H
        have hcz15_0 : wc.cell? ⟨gb168, 0, none⟩ = some (.string a0_0) := lc BK168 0
        have hcz15_1 : wc.cell? ⟨gb168, 1, none⟩ = some (.int .i64 a0_1) := lc BK168 1
        have hcz15_2 : wc.cell? ⟨gb168, 2, none⟩ = some (.slice A0_2 l0_2.length c0_2) := lc BK168 2
        have hcz15_3 : wc.cell? ⟨gb168, 3, none⟩ = some (.slice A0_3 l0_3.length c0_3) := lc BK168 3
        have hfz15_0 := fz BK168 0
        have hfz15_1 := fz BK168 1
        have hfz15_2 := fz BK168 2
        have hfz15_3 := fz BK168 3
        go_wp2
        go_loopg [35] kj9 (fun kq v35 w' => ∃ (x35_3 : Int), v35 = .int .i64 x35_3 ∧ Aside0 (valuation_Validate.l0 kq l0_2 (l0_2.length : Int) x35_3 a0_0 a0_1 l0_2 l0_3 = some r) ∧ Aside0 (kq ≤ kj9) ∧ Aside0 (w'.heap[gb168]? = some (.cells #[.string a0_0, .int .i64 a0_1, (.slice A0_2 l0_2.length c0_2), (.slice A0_3 l0_3.length c0_3)] 25 (0, 0))) ∧ Aside0 (Below w.heap.size w w'))
        case atStart => exact ⟨(0), (by first | rfl | (simp; done) | (simp [*]; done)), H', ⟨Nat.le_refl _⟩, ⟨aB BK168⟩, ⟨aH HB⟩⟩
        case round =>
         clear H'
         try clear c1
         try clear p2
         try clear c4
         try clear c4b0
         try clear c4b1
         try clear c4b2
         try clear c6
         try clear c6b0
         try clear c6b1
         try clear c9
         try clear c11
         try clear c11b0
         try clear c14
         try clear hcz12_0
         try clear hcz12_1
         try clear hcz12_2
         try clear hcz12_3
         try clear hcz13_0
         try clear hcz13_1
         try clear hcz13_2
         try clear hcz13_3
         try clear hcz15_0
         try clear hcz15_1
         try clear hcz15_2
         try clear hcz15_3
         try clear hcz5_0
         try clear hcz5_1
         try clear hcz5_2
         try clear hcz5_3
         try clear hcz7_0
         try clear hcz7_1
         try clear hcz7_2
         try clear hcz7_3
         try clear hcz8_0
         try clear hcz8_1
         try clear hcz8_2
         try clear hcz8_3
         try clear hfz12_0
         try clear hfz12_1
         try clear hfz12_2
         try clear hfz12_3
         try clear hfz13_0
         try clear hfz13_1
         try clear hfz13_2
         try clear hfz13_3
         try clear hfz15_0
         try clear hfz15_1
         try clear hfz15_2
         try clear hfz15_3
         try clear hfz5_0
         try clear hfz5_1
         try clear hfz5_2
         try clear hfz5_3
         try clear hfz7_0
         try clear hfz7_1
         try clear hfz7_2
         try clear hfz7_3
         try clear hfz8_0
         try clear hfz8_1
         try clear hfz8_2
         try clear hfz8_3
         try clear p2
         obtain ⟨x35_3, rfl, HA, HK3, BK168, HB⟩ := hrel
         cases gk with
         | zero => exact absurd HA.out (by simp [valuation_Validate.l0])
         | succ k3 =>
          have H := HA.out
          clear HA
          simp only [valuation_Validate.l0] at H
          by_cases c16 : x35_3 < (l0_2.length : Int)
          ·rw [if_pos c16] at H
           have c16b0 : decide (x35_3 < (l0_2.length : Int)) = true := decide_eq_true c16
           clear c16
           by_cases c17 : 0 ≤ x35_3
           ·rw [if_pos c17] at H
            have c17b0 : decide (0 ≤ x35_3) = true := decide_eq_true c17
            clear c17
            by_cases c18 : x35_3 < (l0_2.length : Int)
            ·rw [if_pos c18] at H
             have c18b0 : decide (x35_3 < (l0_2.length : Int)) = true := decide_eq_true c18
             clear c18
             by_cases c19 : ((rd_T35 l0_2 x35_3).f0) < 0
             ·rw [if_pos c19] at H
              have c19b0 : decide (((rd_T35 l0_2 x35_3).f0) < 0) = true := decide_eq_true c19
              clear c19
              obtain rfl := Option.some.inj H
              simp only [Option.some.injEq, Prod.mk.injEq] at H
              obtain ⟨rfl⟩ := H
              have p169 : 0 ≤ (x35_3 : Int) := of_decide_eq_true (by first | (with_reducible assumption) | assumption)
              have q169 : x35_3 < (l0_2.length : Int) := of_decide_eq_true (by first | (with_reducible assumption) | assumption)
              obtain ⟨ad169, e169, hx169_0, hx169_1⟩ := at_T35 HR0_2.out x35_3 p169 q169
              cases e169
              replace hx169_0 := (HB.out.cell (World.block_lt_of_cell? w _ hx169_0)).trans hx169_0
              replace hx169_1 := (HB.out.cell (World.block_lt_of_cell? w _ hx169_1)).trans hx169_1
              replace p169 := eq_true p169
              replace q169 := eq_true q169
              go_wp2_with (first | ((with_reducible refine gate_dst (N := 4) rfl ?_); (try (refine gate_guard (by rfl) ?_; dsimp only)); refine boxA (N := 4) (cs := #[.int .i64 0, .int .i64 0]) (t := 35) ?_; intro gb170 hg w20 hbox hb; have n0_ := bB BK168 hb; have n1_ := hB HB hb; have n2_ := Aside0.mk (hbox); have n3_ := gW hg HB; have n4_ := gW hg HB; have n5_ := nL hg BK168; have n6_ := nG hg BK168; clear BK168; clear HB; have BK168 := n0_; have HB := n1_; have BK170 := n2_; have GW170 := n3_; have GE170 := n4_; have NB168_170 := n5_; have NB170_168 := n6_; clear n0_ n1_ n2_ n3_ n4_ n5_ n6_; clear hb hbox hg; have hnb21 := NB170_168.out; have hnc21 := NB168_170.out; have hcz22_0 : w20.cell? ⟨gb170, 0, none⟩ = some (.int .i64 0) := lc BK170 0; have hcz22_1 : w20.cell? ⟨gb170, 1, none⟩ = some (.int .i64 0) := lc BK170 1; have hfz22_0 := fz BK170 0; have hfz22_1 := fz BK170 1))
              go_ret
              exact ⟨by first | rfl | (simp [errW_none, errW_some] <;> rfl) | (simp [*, errW_none, errW_some] <;> rfl) | (simp (disch := first | assumption | omega) only [Int.tdiv_eq_ediv_of_nonneg, Int.tmod_eq_emod_of_nonneg]; rfl), aH HB⟩
             ·rw [if_neg c19] at H
              have c19b0 : decide (((rd_T35 l0_2 x35_3).f0) < 0) = false := decide_eq_false c19
              clear c19
              by_cases c23 : ((rd_T35 l0_2 x35_3).f0) > 1000000000000
              ·rw [if_pos c23] at H
               have c23b0 : decide (1000000000000 < ((rd_T35 l0_2 x35_3).f0)) = true := decide_eq_true c23
               clear c23
               obtain rfl := Option.some.inj H
               simp only [Option.some.injEq, Prod.mk.injEq] at H
               obtain ⟨rfl⟩ := H
               have p169 : 0 ≤ (x35_3 : Int) := of_decide_eq_true (by first | (with_reducible assumption) | assumption)
               have q169 : x35_3 < (l0_2.length : Int) := of_decide_eq_true (by first | (with_reducible assumption) | assumption)
               obtain ⟨ad169, e169, hx169_0, hx169_1⟩ := at_T35 HR0_2.out x35_3 p169 q169
               cases e169
               replace hx169_0 := (HB.out.cell (World.block_lt_of_cell? w _ hx169_0)).trans hx169_0
               replace hx169_1 := (HB.out.cell (World.block_lt_of_cell? w _ hx169_1)).trans hx169_1
               replace p169 := eq_true p169
               replace q169 := eq_true q169
               go_wp2_with (first | ((with_reducible refine gate_dst (N := 4) rfl ?_); (try (refine gate_guard (by rfl) ?_; dsimp only)); refine boxA (N := 4) (cs := #[.int .i64 0, .int .i64 0]) (t := 35) ?_; intro gb170 hg w24 hbox hb; have n0_ := bB BK168 hb; have n1_ := hB HB hb; have n2_ := Aside0.mk (hbox); have n3_ := gW hg HB; have n4_ := gW hg HB; have n5_ := nL hg BK168; have n6_ := nG hg BK168; clear BK168; clear HB; have BK168 := n0_; have HB := n1_; have BK170 := n2_; have GW170 := n3_; have GE170 := n4_; have NB168_170 := n5_; have NB170_168 := n6_; clear n0_ n1_ n2_ n3_ n4_ n5_ n6_; clear hb hbox hg; have hnb25 := NB170_168.out; have hnc25 := NB168_170.out; have hcz26_0 : w24.cell? ⟨gb170, 0, none⟩ = some (.int .i64 0) := lc BK170 0; have hcz26_1 : w24.cell? ⟨gb170, 1, none⟩ = some (.int .i64 0) := lc BK170 1; have hfz26_0 := fz BK170 0; have hfz26_1 := fz BK170 1))
               go_ret
               exact ⟨by first | rfl | (simp [errW_none, errW_some] <;> rfl) | (simp [*, errW_none, errW_some] <;> rfl) | (simp (disch := first | assumption | omega) only [Int.tdiv_eq_ediv_of_nonneg, Int.tmod_eq_emod_of_nonneg]; rfl), aH HB⟩
              ·rw [if_neg c23] at H
               have c23b0 : decide (1000000000000 < ((rd_T35 l0_2 x35_3).f0)) = false := decide_eq_false c23
               clear c23
               by_cases c27 : ((rd_T35 l0_2 x35_3).f1) < 0
               ·rw [if_pos c27] at H
                have c27b0 : decide (((rd_T35 l0_2 x35_3).f1) < 0) = true := decide_eq_true c27
                clear c27
                obtain rfl := Option.some.inj H
                simp only [Option.some.injEq, Prod.mk.injEq] at H
                obtain ⟨rfl⟩ := H
                have p169 : 0 ≤ (x35_3 : Int) := of_decide_eq_true (by first | (with_reducible assumption) | assumption)
                have q169 : x35_3 < (l0_2.length : Int) := of_decide_eq_true (by first | (with_reducible assumption) | assumption)
                obtain ⟨ad169, e169, hx169_0, hx169_1⟩ := at_T35 HR0_2.out x35_3 p169 q169
                cases e169
                replace hx169_0 := (HB.out.cell (World.block_lt_of_cell? w _ hx169_0)).trans hx169_0
                replace hx169_1 := (HB.out.cell (World.block_lt_of_cell? w _ hx169_1)).trans hx169_1
                replace p169 := eq_true p169
                replace q169 := eq_true q169
                go_wp2_with (first | ((with_reducible refine gate_dst (N := 4) rfl ?_); (try (refine gate_guard (by rfl) ?_; dsimp only)); refine boxA (N := 4) (cs := #[.int .i64 0, .int .i64 0]) (t := 35) ?_; intro gb170 hg w28 hbox hb; have n0_ := bB BK168 hb; have n1_ := hB HB hb; have n2_ := Aside0.mk (hbox); have n3_ := gW hg HB; have n4_ := gW hg HB; have n5_ := nL hg BK168; have n6_ := nG hg BK168; clear BK168; clear HB; have BK168 := n0_; have HB := n1_; have BK170 := n2_; have GW170 := n3_; have GE170 := n4_; have NB168_170 := n5_; have NB170_168 := n6_; clear n0_ n1_ n2_ n3_ n4_ n5_ n6_; clear hb hbox hg; have hnb29 := NB170_168.out; have hnc29 := NB168_170.out; have hcz30_0 : w28.cell? ⟨gb170, 0, none⟩ = some (.int .i64 0) := lc BK170 0; have hcz30_1 : w28.cell? ⟨gb170, 1, none⟩ = some (.int .i64 0) := lc BK170 1; have hfz30_0 := fz BK170 0; have hfz30_1 := fz BK170 1))
                go_ret
                exact ⟨by first | rfl | (simp [errW_none, errW_some] <;> rfl) | (simp [*, errW_none, errW_some] <;> rfl) | (simp (disch := first | assumption | omega) only [Int.tdiv_eq_ediv_of_nonneg, Int.tmod_eq_emod_of_nonneg]; rfl), aH HB⟩
               ·rw [if_neg c27] at H
                have c27b0 : decide (((rd_T35 l0_2 x35_3).f1) < 0) = false := decide_eq_false c27
                clear c27
                by_cases c31 : ((rd_T35 l0_2 x35_3).f1) > 1000000000
                ·rw [if_pos c31] at H
                 have c31b0 : decide (1000000000 < ((rd_T35 l0_2 x35_3).f1)) = true := decide_eq_true c31
                 clear c31
                 obtain rfl := Option.some.inj H
                 simp only [Option.some.injEq, Prod.mk.injEq] at H
                 obtain ⟨rfl⟩ := H
                 have p169 : 0 ≤ (x35_3 : Int) := of_decide_eq_true (by first | (with_reducible assumption) | assumption)
                 have q169 : x35_3 < (l0_2.length : Int) := of_decide_eq_true (by first | (with_reducible assumption) | assumption)
                 obtain ⟨ad169, e169, hx169_0, hx169_1⟩ := at_T35 HR0_2.out x35_3 p169 q169
                 cases e169
                 replace hx169_0 := (HB.out.cell (World.block_lt_of_cell? w _ hx169_0)).trans hx169_0
                 replace hx169_1 := (HB.out.cell (World.block_lt_of_cell? w _ hx169_1)).trans hx169_1
                 replace p169 := eq_true p169
                 replace q169 := eq_true q169
                 go_wp2_with (first | ((with_reducible refine gate_dst (N := 4) rfl ?_); (try (refine gate_guard (by rfl) ?_; dsimp only)); refine boxA (N := 4) (cs := #[.int .i64 0, .int .i64 0]) (t := 35) ?_; intro gb170 hg w32 hbox hb; have n0_ := bB BK168 hb; have n1_ := hB HB hb; have n2_ := Aside0.mk (hbox); have n3_ := gW hg HB; have n4_ := gW hg HB; have n5_ := nL hg BK168; have n6_ := nG hg BK168; clear BK168; clear HB; have BK168 := n0_; have HB := n1_; have BK170 := n2_; have GW170 := n3_; have GE170 := n4_; have NB168_170 := n5_; have NB170_168 := n6_; clear n0_ n1_ n2_ n3_ n4_ n5_ n6_; clear hb hbox hg; have hnb33 := NB170_168.out; have hnc33 := NB168_170.out; have hcz34_0 : w32.cell? ⟨gb170, 0, none⟩ = some (.int .i64 0) := lc BK170 0; have hcz34_1 : w32.cell? ⟨gb170, 1, none⟩ = some (.int .i64 0) := lc BK170 1; have hfz34_0 := fz BK170 0; have hfz34_1 := fz BK170 1))
                 go_ret
                 exact ⟨by first | rfl | (simp [errW_none, errW_some] <;> rfl) | (simp [*, errW_none, errW_some] <;> rfl) | (simp (disch := first | assumption | omega) only [Int.tdiv_eq_ediv_of_nonneg, Int.tmod_eq_emod_of_nonneg]; rfl), aH HB⟩
                ·rw [if_neg c31] at H
                 have c31b0 : decide (1000000000 < ((rd_T35 l0_2 x35_3).f1)) = false := decide_eq_false c31
                 clear c31
                 have H' := Aside0.mk H
                 clear H
                 have p169 : 0 ≤ (x35_3 : Int) := of_decide_eq_true (by first | (with_reducible assumption) | assumption)
                 have q169 : x35_3 < (l0_2.length : Int) := of_decide_eq_true (by first | (with_reducible assumption) | assumption)
                 obtain ⟨ad169, e169, hx169_0, hx169_1⟩ := at_T35 HR0_2.out x35_3 p169 q169
                 cases e169
                 replace hx169_0 := (HB.out.cell (World.block_lt_of_cell? w _ hx169_0)).trans hx169_0
                 replace hx169_1 := (HB.out.cell (World.block_lt_of_cell? w _ hx169_1)).trans hx169_1
                 replace p169 := eq_true p169
                 replace q169 := eq_true q169
                 go_wp2_with (first | ((with_reducible refine gate_dst (N := 4) rfl ?_); (try (refine gate_guard (by rfl) ?_; dsimp only)); refine boxA (N := 4) (cs := #[.int .i64 0, .int .i64 0]) (t := 35) ?_; intro gb170 hg w35 hbox hb; have n0_ := bB BK168 hb; have n1_ := hB HB hb; have n2_ := Aside0.mk (hbox); have n3_ := gW hg HB; have n4_ := gW hg HB; have n5_ := nL hg BK168; have n6_ := nG hg BK168; clear BK168; clear HB; have BK168 := n0_; have HB := n1_; have BK170 := n2_; have GW170 := n3_; have GE170 := n4_; have NB168_170 := n5_; have NB170_168 := n6_; clear n0_ n1_ n2_ n3_ n4_ n5_ n6_; clear hb hbox hg; have hnb36 := NB170_168.out; have hnc36 := NB168_170.out; have hcz37_0 : w35.cell? ⟨gb170, 0, none⟩ = some (.int .i64 0) := lc BK170 0; have hcz37_1 : w35.cell? ⟨gb170, 1, none⟩ = some (.int .i64 0) := lc BK170 1; have hfz37_0 := fz BK170 0; have hfz37_1 := fz BK170 1))
                 go_roundg k3
                 case measure => have := HJ1.out; have := HJ9.out; have := HK3.out; omega
                 case rel => exact ⟨(wrap64 (x35_3 + 1)), (by first | rfl | (simp; done) | (simp [*]; done)), H', ⟨by have := HJ1.out; have := HJ9.out; have := HK3.out; omega⟩, ⟨by (with_reducible repeat (first | refine blk_drewN ?_ _ | refine blk_drew ?_ | refine blk_alloc ?_ _)); refine blk_far ?_ NB168_170.out _; (with_reducible repeat (first | refine blk_drewN ?_ _ | refine blk_drew ?_ | refine blk_alloc ?_ _)); refine blk_far ?_ NB168_170.out _; (with_reducible repeat (first | refine blk_drewN ?_ _ | refine blk_drew ?_ | refine blk_alloc ?_ _)); exact BK168.out⟩, ⟨aH HB⟩⟩
            ·rw [if_neg c18] at H
             exact absurd H (by simp)
           ·rw [if_neg c17] at H
            exact absurd H (by simp)
          ·rw [if_neg c16] at H
           have c16b0 : decide (x35_3 < (l0_2.length : Int)) = false := decide_eq_false c16
           clear c16
           have H' := Aside0.mk H
           clear H
           have hcz38_0 : wr.cell? ⟨gb168, 0, none⟩ = some (.string a0_0) := lc BK168 0
           have hcz38_1 : wr.cell? ⟨gb168, 1, none⟩ = some (.int .i64 a0_1) := lc BK168 1
           have hcz38_2 : wr.cell? ⟨gb168, 2, none⟩ = some (.slice A0_2 l0_2.length c0_2) := lc BK168 2
           have hcz38_3 : wr.cell? ⟨gb168, 3, none⟩ = some (.slice A0_3 l0_3.length c0_3) := lc BK168 3
           have hfz38_0 := fz BK168 0
           have hfz38_1 := fz BK168 1
           have hfz38_2 := fz BK168 2
           have hfz38_3 := fz BK168 3
           go_wp2
           go_loopg [61] k3 (fun kq v61 w' => ∃ (x61_4 : Int), v61 = .int .i64 x61_4 ∧ Aside0 (valuation_Validate.l1 kq l0_3 (l0_3.length : Int) x61_4 a0_0 a0_1 l0_2 l0_3 = some r) ∧ Aside0 (kq ≤ k3) ∧ Aside0 (w'.heap[gb168]? = some (.cells #[.string a0_0, .int .i64 a0_1, (.slice A0_2 l0_2.length c0_2), (.slice A0_3 l0_3.length c0_3)] 25 (0, 0))) ∧ Aside0 (Below w.heap.size w w'))
           case atStart => exact ⟨(0), (by first | rfl | (simp; done) | (simp [*]; done)), H', ⟨Nat.le_refl _⟩, ⟨aB BK168⟩, ⟨aH HB⟩⟩
           case round =>
            clear H'
            try clear c1
            try clear p1
            try clear q1
            try clear hx1
            try clear c2
            try clear p2
            try clear c3
            try clear c4
            try clear c4b0
            try clear c4b1
            try clear c4b2
            try clear c6
            try clear c6b0
            try clear c6b1
            try clear p6
            try clear c9
            try clear c11
            try clear c11b0
            try clear c14
            try clear c16
            try clear c16b0
            try clear p16
            try clear q16
            try clear hx16
            try clear c17
            try clear c17b0
            try clear c18
            try clear c18b0
            try clear c19
            try clear c19b0
            try clear c21
            try clear c23
            try clear c23b0
            try clear c25
            try clear c27
            try clear c27b0
            try clear c29
            try clear c31
            try clear c31b0
            try clear c33
            try clear c36
            try clear hcz12_0
            try clear hcz12_1
            try clear hcz12_2
            try clear hcz12_3
            try clear hcz13_0
            try clear hcz13_1
            try clear hcz13_2
            try clear hcz13_3
            try clear hcz15_0
            try clear hcz15_1
            try clear hcz15_2
            try clear hcz15_3
            try clear hcz22_0
            try clear hcz22_1
            try clear hcz26_0
            try clear hcz26_1
            try clear hcz30_0
            try clear hcz30_1
            try clear hcz34_0
            try clear hcz34_1
            try clear hcz37_0
            try clear hcz37_1
            try clear hcz38_0
            try clear hcz38_1
            try clear hcz38_2
            try clear hcz38_3
            try clear hcz5_0
            try clear hcz5_1
            try clear hcz5_2
            try clear hcz5_3
            try clear hcz7_0
            try clear hcz7_1
            try clear hcz7_2
            try clear hcz7_3
            try clear hcz8_0
            try clear hcz8_1
            try clear hcz8_2
            try clear hcz8_3
            try clear hfz12_0
            try clear hfz12_1
            try clear hfz12_2
            try clear hfz12_3
            try clear hfz13_0
            try clear hfz13_1
            try clear hfz13_2
            try clear hfz13_3
            try clear hfz15_0
            try clear hfz15_1
            try clear hfz15_2
            try clear hfz15_3
            try clear hfz22_0
            try clear hfz22_1
            try clear hfz26_0
            try clear hfz26_1
            try clear hfz30_0
            try clear hfz30_1
            try clear hfz34_0
            try clear hfz34_1
            try clear hfz37_0
            try clear hfz37_1
            try clear hfz38_0
            try clear hfz38_1
            try clear hfz38_2
            try clear hfz38_3
            try clear hfz5_0
            try clear hfz5_1
            try clear hfz5_2
            try clear hfz5_3
            try clear hfz7_0
            try clear hfz7_1
            try clear hfz7_2
            try clear hfz7_3
            try clear hfz8_0
            try clear hfz8_1
            try clear hfz8_2
            try clear hfz8_3
            try clear hx169_0
            try clear hx169_1
            try clear p169
            try clear p2
            try clear q169
            obtain ⟨x61_4, rfl, HA, HK4, BK168, HB⟩ := hrel
            cases gk with
            | zero => exact absurd HA.out (by simp [valuation_Validate.l1])
            | succ k4 =>
             have H := HA.out
             clear HA
             simp only [valuation_Validate.l1] at H
             by_cases c39 : x61_4 < (l0_3.length : Int)
             ·rw [if_pos c39] at H
              have c39b0 : decide (x61_4 < (l0_3.length : Int)) = true := decide_eq_true c39
              clear c39
              by_cases c40 : 0 ≤ x61_4
              ·rw [if_pos c40] at H
               have c40b0 : decide (0 ≤ x61_4) = true := decide_eq_true c40
               clear c40
               by_cases c41 : x61_4 < (l0_3.length : Int)
               ·rw [if_pos c41] at H
                have c41b0 : decide (x61_4 < (l0_3.length : Int)) = true := decide_eq_true c41
                clear c41
                replace H := Option.bind_eq_some_iff.mp H
                obtain ⟨t173, A420, H⟩ := H
                replace H : (if t173 = 0 then (valuation_Validate.l1 k4 l0_3 (l0_3.length : Int) (wrap64 (x61_4 + 1)) a0_0 a0_1 l0_2 l0_3) else (some t173)) = some r := H
                have A42 := Aside0.mk A420
                clear A420
                by_cases c43 : t173 = 0
                ·rw [if_pos c43] at H
                 have c43b0 : (t173 == 0) = true := beq_iff_eq.mpr c43
                 have c43b1 : (t173 != 0) = false := bne_eq_false_iff_eq.mpr c43
                 clear c43
                 have H' := Aside0.mk H
                 clear H
                 have p171 : 0 ≤ (x61_4 : Int) := of_decide_eq_true (by first | (with_reducible assumption) | assumption)
                 have q171 : x61_4 < (l0_3.length : Int) := of_decide_eq_true (by first | (with_reducible assumption) | assumption)
                 obtain ⟨ad171, e171, hx171_0, hx171_1, hx171_2, hx171_3, hx171_4⟩ := at_T33 HR0_3.out x61_4 p171 q171
                 cases e171
                 replace hx171_0 := (HB.out.cell (World.block_lt_of_cell? w _ hx171_0)).trans hx171_0
                 replace hx171_1 := (HB.out.cell (World.block_lt_of_cell? w _ hx171_1)).trans hx171_1
                 replace hx171_2 := (HB.out.cell (World.block_lt_of_cell? w _ hx171_2)).trans hx171_2
                 replace hx171_3 := (HB.out.cell (World.block_lt_of_cell? w _ hx171_3)).trans hx171_3
                 replace hx171_4 := (HB.out.cell (World.block_lt_of_cell? w _ hx171_4)).trans hx171_4
                 replace p171 := eq_true p171
                 replace q171 := eq_true q171
                 go_wp2_with (first | ((with_reducible refine gate_dst (N := 6) rfl ?_); (try (refine gate_guard (by rfl) ?_; dsimp only)); refine boxA (N := 6) (cs := #[.int .i64 0, .int .i64 0, .string (⟨#[]⟩ : ByteArray), .int .i64 0, .int .i64 0]) (t := 33) ?_; intro gb172 hg w44 hbox hb; have n0_ := bB BK168 hb; have n1_ := hB HB hb; have n2_ := Aside0.mk (hbox); have n3_ := gW hg HB; have n4_ := gW hg HB; have n5_ := nL hg BK168; have n6_ := nG hg BK168; clear BK168; clear HB; have BK168 := n0_; have HB := n1_; have BK172 := n2_; have GW172 := n3_; have GE172 := n4_; have NB168_172 := n5_; have NB172_168 := n6_; clear n0_ n1_ n2_ n3_ n4_ n5_ n6_; clear hb hbox hg; have hnb45 := NB172_168.out; have hnc45 := NB168_172.out; have hcz46_0 : w44.cell? ⟨gb172, 0, none⟩ = some (.int .i64 0) := lc BK172 0; have hcz46_1 : w44.cell? ⟨gb172, 1, none⟩ = some (.int .i64 0) := lc BK172 1; have hcz46_2 : w44.cell? ⟨gb172, 2, none⟩ = some (.string (⟨#[]⟩ : ByteArray)) := lc BK172 2; have hcz46_3 : w44.cell? ⟨gb172, 3, none⟩ = some (.int .i64 0) := lc BK172 3; have hcz46_4 : w44.cell? ⟨gb172, 4, none⟩ = some (.int .i64 0) := lc BK172 4; have hfz46_0 := fz BK172 0; have hfz46_1 := fz BK172 1; have hfz46_2 := fz BK172 2; have hfz46_3 := fz BK172 3; have hfz46_4 := fz BK172 4; have hcz47_0 : w44.cell? ⟨gb168, 0, none⟩ = some (.string a0_0) := lc BK168 0; have hcz47_1 : w44.cell? ⟨gb168, 1, none⟩ = some (.int .i64 a0_1) := lc BK168 1; have hcz47_2 : w44.cell? ⟨gb168, 2, none⟩ = some (.slice A0_2 l0_2.length c0_2) := lc BK168 2; have hcz47_3 : w44.cell? ⟨gb168, 3, none⟩ = some (.slice (some ad171) l0_3.length c0_3) := lc BK168 3; have hfz47_0 := fz BK168 0; have hfz47_1 := fz BK168 1; have hfz47_2 := fz BK168 2; have hfz47_3 := fz BK168 3) | ((with_reducible refine gate_callee (f := 25) rfl ?_); refine goA (some 69) Try.func25 #[.agg #[.int .i64 ((rd_T33 l0_3 x61_4).f0), .int .i64 ((rd_T33 l0_3 x61_4).f1), .string ((rd_T33 l0_3 x61_4).f2), .int .i64 ((rd_T33 l0_3 x61_4).f3), .int .i64 ((rd_T33 l0_3 x61_4).f4)], .int .i64 (l0_2.length : Int)] ?_; (with_reducible refine (valuation_charge.calls k4 ((rd_T33 l0_3 x61_4).f0) ((rd_T33 l0_3 x61_4).f1) ((rd_T33 l0_3 x61_4).f2) ((rd_T33 l0_3 x61_4).f3) ((rd_T33 l0_3 x61_4).f4) (l0_2.length : Int) t173 _ A42.out).mono ?_); rintro e w48 ⟨rfl, hb⟩; refine ⟨_, rfl, ?_⟩; have n0_ := Aside0.mk (blk_below (g := gb168) (o := .cells #[.string a0_0, .int .i64 a0_1, .slice A0_2 l0_2.length c0_2, .slice (some ad171) l0_3.length c0_3] 25 (0, 0)) (by (with_reducible repeat (first | refine blk_drewN ?_ _ | refine blk_drew ?_ | refine blk_alloc ?_ _)); refine blk_far ?_ NB168_172.out _; (with_reducible repeat (first | refine blk_drewN ?_ _ | refine blk_drew ?_ | refine blk_alloc ?_ _)); refine blk_far ?_ NB168_172.out _; (with_reducible repeat (first | refine blk_drewN ?_ _ | refine blk_drew ?_ | refine blk_alloc ?_ _)); refine blk_far ?_ NB168_172.out _; (with_reducible repeat (first | refine blk_drewN ?_ _ | refine blk_drew ?_ | refine blk_alloc ?_ _)); refine blk_far ?_ NB168_172.out _; (with_reducible repeat (first | refine blk_drewN ?_ _ | refine blk_drew ?_ | refine blk_alloc ?_ _)); refine blk_far ?_ NB168_172.out _; (with_reducible repeat (first | refine blk_drewN ?_ _ | refine blk_drew ?_ | refine blk_alloc ?_ _)); exact BK168.out) hb); have n1_ := Aside0.mk (blk_below (g := gb172) (o := .cells #[.int .i64 ((rd_T33 l0_3 x61_4).f0), .int .i64 ((rd_T33 l0_3 x61_4).f1), .string ((rd_T33 l0_3 x61_4).f2), .int .i64 ((rd_T33 l0_3 x61_4).f3), .int .i64 ((rd_T33 l0_3 x61_4).f4)] 33 (0, 0)) (by (with_reducible repeat (first | refine blk_drewN ?_ _ | refine blk_drew ?_ | refine blk_alloc ?_ _)); refine blk_put (cs := #[.int .i64 ((rd_T33 l0_3 x61_4).f0), .int .i64 ((rd_T33 l0_3 x61_4).f1), .string ((rd_T33 l0_3 x61_4).f2), .int .i64 ((rd_T33 l0_3 x61_4).f3), .int .i64 0]) ?_ 4 _ rfl; (with_reducible repeat (first | refine blk_drewN ?_ _ | refine blk_drew ?_ | refine blk_alloc ?_ _)); refine blk_put (cs := #[.int .i64 ((rd_T33 l0_3 x61_4).f0), .int .i64 ((rd_T33 l0_3 x61_4).f1), .string ((rd_T33 l0_3 x61_4).f2), .int .i64 0, .int .i64 0]) ?_ 3 _ rfl; (with_reducible repeat (first | refine blk_drewN ?_ _ | refine blk_drew ?_ | refine blk_alloc ?_ _)); refine blk_put (cs := #[.int .i64 ((rd_T33 l0_3 x61_4).f0), .int .i64 ((rd_T33 l0_3 x61_4).f1), .string (⟨#[]⟩ : ByteArray), .int .i64 0, .int .i64 0]) ?_ 2 _ rfl; (with_reducible repeat (first | refine blk_drewN ?_ _ | refine blk_drew ?_ | refine blk_alloc ?_ _)); refine blk_put (cs := #[.int .i64 ((rd_T33 l0_3 x61_4).f0), .int .i64 0, .string (⟨#[]⟩ : ByteArray), .int .i64 0, .int .i64 0]) ?_ 1 _ rfl; (with_reducible repeat (first | refine blk_drewN ?_ _ | refine blk_drew ?_ | refine blk_alloc ?_ _)); refine blk_put (cs := #[.int .i64 0, .int .i64 0, .string (⟨#[]⟩ : ByteArray), .int .i64 0, .int .i64 0]) ?_ 0 _ rfl; (with_reducible repeat (first | refine blk_drewN ?_ _ | refine blk_drew ?_ | refine blk_alloc ?_ _)); exact BK172.out) hb); have n2_ := hB HB hb; clear BK168; clear BK172; clear HB; have BK168 := n0_; have BK172 := n1_; have HB := n2_; clear n0_ n1_ n2_; clear hb))
                 go_roundg k4
                 case measure => have := HJ1.out; have := HJ9.out; have := HK3.out; have := HK4.out; omega
                 case rel => exact ⟨(wrap64 (x61_4 + 1)), (by first | rfl | (simp; done) | (simp [*]; done)), H', ⟨by have := HJ1.out; have := HJ9.out; have := HK3.out; have := HK4.out; omega⟩, ⟨aB BK168⟩, ⟨aH HB⟩⟩
                ·rw [if_neg c43] at H
                 have c43b0 : (t173 == 0) = false := beq_eq_false_iff_ne.mpr c43
                 have c43b1 : (t173 != 0) = true := bne_iff_ne.mpr c43
                 obtain rfl := Option.some.inj H
                 simp only [Option.some.injEq, Prod.mk.injEq] at H
                 obtain ⟨rfl⟩ := H
                 have p171 : 0 ≤ (x61_4 : Int) := of_decide_eq_true (by first | (with_reducible assumption) | assumption)
                 have q171 : x61_4 < (l0_3.length : Int) := of_decide_eq_true (by first | (with_reducible assumption) | assumption)
                 obtain ⟨ad171, e171, hx171_0, hx171_1, hx171_2, hx171_3, hx171_4⟩ := at_T33 HR0_3.out x61_4 p171 q171
                 cases e171
                 replace hx171_0 := (HB.out.cell (World.block_lt_of_cell? w _ hx171_0)).trans hx171_0
                 replace hx171_1 := (HB.out.cell (World.block_lt_of_cell? w _ hx171_1)).trans hx171_1
                 replace hx171_2 := (HB.out.cell (World.block_lt_of_cell? w _ hx171_2)).trans hx171_2
                 replace hx171_3 := (HB.out.cell (World.block_lt_of_cell? w _ hx171_3)).trans hx171_3
                 replace hx171_4 := (HB.out.cell (World.block_lt_of_cell? w _ hx171_4)).trans hx171_4
                 replace p171 := eq_true p171
                 replace q171 := eq_true q171
                 go_wp2_with (first | ((with_reducible refine gate_dst (N := 6) rfl ?_); (try (refine gate_guard (by rfl) ?_; dsimp only)); refine boxA (N := 6) (cs := #[.int .i64 0, .int .i64 0, .string (⟨#[]⟩ : ByteArray), .int .i64 0, .int .i64 0]) (t := 33) ?_; intro gb172 hg w49 hbox hb; have n0_ := bB BK168 hb; have n1_ := hB HB hb; have n2_ := Aside0.mk (hbox); have n3_ := gW hg HB; have n4_ := gW hg HB; have n5_ := nL hg BK168; have n6_ := nG hg BK168; clear BK168; clear HB; have BK168 := n0_; have HB := n1_; have BK172 := n2_; have GW172 := n3_; have GE172 := n4_; have NB168_172 := n5_; have NB172_168 := n6_; clear n0_ n1_ n2_ n3_ n4_ n5_ n6_; clear hb hbox hg; have hnb50 := NB172_168.out; have hnc50 := NB168_172.out; have hcz51_0 : w49.cell? ⟨gb172, 0, none⟩ = some (.int .i64 0) := lc BK172 0; have hcz51_1 : w49.cell? ⟨gb172, 1, none⟩ = some (.int .i64 0) := lc BK172 1; have hcz51_2 : w49.cell? ⟨gb172, 2, none⟩ = some (.string (⟨#[]⟩ : ByteArray)) := lc BK172 2; have hcz51_3 : w49.cell? ⟨gb172, 3, none⟩ = some (.int .i64 0) := lc BK172 3; have hcz51_4 : w49.cell? ⟨gb172, 4, none⟩ = some (.int .i64 0) := lc BK172 4; have hfz51_0 := fz BK172 0; have hfz51_1 := fz BK172 1; have hfz51_2 := fz BK172 2; have hfz51_3 := fz BK172 3; have hfz51_4 := fz BK172 4; have hcz52_0 : w49.cell? ⟨gb168, 0, none⟩ = some (.string a0_0) := lc BK168 0; have hcz52_1 : w49.cell? ⟨gb168, 1, none⟩ = some (.int .i64 a0_1) := lc BK168 1; have hcz52_2 : w49.cell? ⟨gb168, 2, none⟩ = some (.slice A0_2 l0_2.length c0_2) := lc BK168 2; have hcz52_3 : w49.cell? ⟨gb168, 3, none⟩ = some (.slice (some ad171) l0_3.length c0_3) := lc BK168 3; have hfz52_0 := fz BK168 0; have hfz52_1 := fz BK168 1; have hfz52_2 := fz BK168 2; have hfz52_3 := fz BK168 3) | ((with_reducible refine gate_callee (f := 25) rfl ?_); refine goA (some 69) Try.func25 #[.agg #[.int .i64 ((rd_T33 l0_3 x61_4).f0), .int .i64 ((rd_T33 l0_3 x61_4).f1), .string ((rd_T33 l0_3 x61_4).f2), .int .i64 ((rd_T33 l0_3 x61_4).f3), .int .i64 ((rd_T33 l0_3 x61_4).f4)], .int .i64 (l0_2.length : Int)] ?_; (with_reducible refine (valuation_charge.calls k4 ((rd_T33 l0_3 x61_4).f0) ((rd_T33 l0_3 x61_4).f1) ((rd_T33 l0_3 x61_4).f2) ((rd_T33 l0_3 x61_4).f3) ((rd_T33 l0_3 x61_4).f4) (l0_2.length : Int) t173 _ A42.out).mono ?_); rintro e w53 ⟨rfl, hb⟩; refine ⟨_, rfl, ?_⟩; have n0_ := Aside0.mk (blk_below (g := gb168) (o := .cells #[.string a0_0, .int .i64 a0_1, .slice A0_2 l0_2.length c0_2, .slice (some ad171) l0_3.length c0_3] 25 (0, 0)) (by (with_reducible repeat (first | refine blk_drewN ?_ _ | refine blk_drew ?_ | refine blk_alloc ?_ _)); refine blk_far ?_ NB168_172.out _; (with_reducible repeat (first | refine blk_drewN ?_ _ | refine blk_drew ?_ | refine blk_alloc ?_ _)); refine blk_far ?_ NB168_172.out _; (with_reducible repeat (first | refine blk_drewN ?_ _ | refine blk_drew ?_ | refine blk_alloc ?_ _)); refine blk_far ?_ NB168_172.out _; (with_reducible repeat (first | refine blk_drewN ?_ _ | refine blk_drew ?_ | refine blk_alloc ?_ _)); refine blk_far ?_ NB168_172.out _; (with_reducible repeat (first | refine blk_drewN ?_ _ | refine blk_drew ?_ | refine blk_alloc ?_ _)); refine blk_far ?_ NB168_172.out _; (with_reducible repeat (first | refine blk_drewN ?_ _ | refine blk_drew ?_ | refine blk_alloc ?_ _)); exact BK168.out) hb); have n1_ := Aside0.mk (blk_below (g := gb172) (o := .cells #[.int .i64 ((rd_T33 l0_3 x61_4).f0), .int .i64 ((rd_T33 l0_3 x61_4).f1), .string ((rd_T33 l0_3 x61_4).f2), .int .i64 ((rd_T33 l0_3 x61_4).f3), .int .i64 ((rd_T33 l0_3 x61_4).f4)] 33 (0, 0)) (by (with_reducible repeat (first | refine blk_drewN ?_ _ | refine blk_drew ?_ | refine blk_alloc ?_ _)); refine blk_put (cs := #[.int .i64 ((rd_T33 l0_3 x61_4).f0), .int .i64 ((rd_T33 l0_3 x61_4).f1), .string ((rd_T33 l0_3 x61_4).f2), .int .i64 ((rd_T33 l0_3 x61_4).f3), .int .i64 0]) ?_ 4 _ rfl; (with_reducible repeat (first | refine blk_drewN ?_ _ | refine blk_drew ?_ | refine blk_alloc ?_ _)); refine blk_put (cs := #[.int .i64 ((rd_T33 l0_3 x61_4).f0), .int .i64 ((rd_T33 l0_3 x61_4).f1), .string ((rd_T33 l0_3 x61_4).f2), .int .i64 0, .int .i64 0]) ?_ 3 _ rfl; (with_reducible repeat (first | refine blk_drewN ?_ _ | refine blk_drew ?_ | refine blk_alloc ?_ _)); refine blk_put (cs := #[.int .i64 ((rd_T33 l0_3 x61_4).f0), .int .i64 ((rd_T33 l0_3 x61_4).f1), .string (⟨#[]⟩ : ByteArray), .int .i64 0, .int .i64 0]) ?_ 2 _ rfl; (with_reducible repeat (first | refine blk_drewN ?_ _ | refine blk_drew ?_ | refine blk_alloc ?_ _)); refine blk_put (cs := #[.int .i64 ((rd_T33 l0_3 x61_4).f0), .int .i64 0, .string (⟨#[]⟩ : ByteArray), .int .i64 0, .int .i64 0]) ?_ 1 _ rfl; (with_reducible repeat (first | refine blk_drewN ?_ _ | refine blk_drew ?_ | refine blk_alloc ?_ _)); refine blk_put (cs := #[.int .i64 0, .int .i64 0, .string (⟨#[]⟩ : ByteArray), .int .i64 0, .int .i64 0]) ?_ 0 _ rfl; (with_reducible repeat (first | refine blk_drewN ?_ _ | refine blk_drew ?_ | refine blk_alloc ?_ _)); exact BK172.out) hb); have n2_ := hB HB hb; clear BK168; clear BK172; clear HB; have BK168 := n0_; have BK172 := n1_; have HB := n2_; clear n0_ n1_ n2_; clear hb))
                 go_ret
                 exact ⟨by first | rfl | (simp [errW_none, errW_some] <;> rfl) | (simp [*, errW_none, errW_some] <;> rfl) | (simp (disch := first | assumption | omega) only [Int.tdiv_eq_ediv_of_nonneg, Int.tmod_eq_emod_of_nonneg]; rfl), aH HB⟩
               ·rw [if_neg c41] at H
                exact absurd H (by simp)
              ·rw [if_neg c40] at H
               exact absurd H (by simp)
             ·rw [if_neg c39] at H
              have c39b0 : decide (x61_4 < (l0_3.length : Int)) = false := decide_eq_false c39
              clear c39
              obtain rfl := Option.some.inj H
              simp only [Option.some.injEq, Prod.mk.injEq] at H
              obtain ⟨rfl⟩ := H
              go_wp2
              go_ret
              exact ⟨by first | rfl | (simp [errW_none, errW_some] <;> rfl) | (simp [*, errW_none, errW_some] <;> rfl) | (simp (disch := first | assumption | omega) only [Int.tdiv_eq_ediv_of_nonneg, Int.tmod_eq_emod_of_nonneg]; rfl), aH HB⟩

end Go.Proofs.Yteoieencagcgdaa.PX
end
section
namespace Go.Proofs.Yteoieencagcgdaa.PX
open Go.RowKit Go.Proofs.YteoieencagcgdaaW.PrintWords Go.Proofs.YteoieencagcgdaaW.PrintLast Go.Proofs.YteoieencagcgdaaW.PrintMore
attribute [local go_sem] max2_int min2_int max_two min_two max_three min_three max_four min_four
set_option linter.unusedVariables false
set_option linter.unusedSimpArgs false

mutual
def valuation_checked.l0 : Nat → List Int → List Int → Int → Int → Option (List Int × Int)
  | 0, _, _, _, _ => none
  | k + 1, x0, x8, x9, x10 => if x10 < x9 then (if 0 ≤ x10 then (if x10 < (x8.length : Int) then (if (rd x8 x10) < 0 then (some (([] : List Int), 12)) else (valuation_checked.l0 k x0 x8 x9 (wrap64 (x10 + 1)))) else (none)) else (none)) else (valuation_checked.l1 k x0 x0 (x0.length : Int) 0)
def valuation_checked.l1 : Nat → List Int → List Int → Int → Int → Option (List Int × Int)
  | 0, _, _, _, _ => none
  | k + 1, x0, x17, x18, x19 => if x19 < x18 then (if 0 ≤ x19 then (if x19 < (x17.length : Int) then (if (rd x17 x19) > 1000000000000 then (some (([] : List Int), 3)) else (valuation_checked.l1 k x0 x17 x18 (wrap64 (x19 + 1)))) else (none)) else (none)) else (some (x0, 0))
end
def valuation_checked.f (k : Nat) (l0 : List Int) : Option (List Int × Int) := valuation_checked.l0 k l0 l0 (l0.length : Int) 0
set_option maxHeartbeats 8000000 in
set_option maxRecDepth 100000 in
theorem valuation_checked.calls (k : Nat) (P0_ : Nat → Prop) (u9000_ : Value) (l0 : List Int) (r1 : List Int) (r2 : Int) (w0 w : World) (hB : Below w0.heap.size w0 w) (ho0 : Kd.R (Kd.int .i64) 3 w w0.heap.size P0_ u9000_ l0) (h : valuation_checked.f k l0 = some (r1, r2)) :
   Calls Try.prog 34 #[u9000_] w fun e w' => ∃ v0_ : Value, e = .returned (.tuple #[v0_, .int .i64 r2]) ∧ Kd.R (Kd.int .i64) 3 w' w0.heap.size (fun k_ => (P0_ k_ ∨ w.heap.size ≤ k_)) v0_ r1 ∧ Below w0.heap.size w0 w' ∧ Kept w w' (fun k_ => P0_ k_) := by
  have HO0 := Aside0.mk (show Kd.R (Kd.int .i64) 3 w w0.heap.size (fun k_ => (P0_ k_ ∨ w.heap.size ≤ k_)) u9000_ l0 from Kd.R_mono ho0 (fun k_ hk => (.inl hk)))
  have HK := Aside0.mk (Kept.refl w (fun k_ => P0_ k_))
  have HW0 := Aside0.mk hB.size
  have HB := Aside0.mk hB
  clear hB
  have H : (valuation_checked.l0 k l0 l0 (l0.length : Int) 0) = some (r1, r2) := h
  clear h
  have H' := Aside0.mk H
  clear H
  obtain ⟨Ao2, co2, eo2⟩ := Kd.R_slice HO0.out
  subst eo2
  go_enter Try.func34, Try.ntmps34
  go_wp2
  go_loopg [10] k (fun kq v10 w' => ∃ (x10_1 : Int), v10 = .int .i64 x10_1 ∧ Aside0 (valuation_checked.l0 kq l0 l0 (l0.length : Int) x10_1 = some (r1, r2)) ∧ Aside0 (kq ≤ k) ∧ Aside0 (Kd.R (Kd.int .i64) 3 w' w0.heap.size (fun k_ => (P0_ k_ ∨ w.heap.size ≤ k_)) (.slice Ao2 l0.length co2) l0) ∧ Aside0 (Kd.R (Kd.int .i64) 3 w' w0.heap.size (fun k_ => (P0_ k_ ∨ w.heap.size ≤ k_)) (.slice Ao2 l0.length co2) l0) ∧ Aside0 (Kept w w' (fun k_ => P0_ k_)) ∧ Aside0 (Below w0.heap.size w0 w'))
  case atStart => exact ⟨(0), (by first | rfl | (simp; done) | (simp [*]; done)), H', ⟨Nat.le_refl _⟩, ⟨aR HO0⟩, ⟨aR HO0⟩, ⟨by repeat (first | (with_reducible first | exact HK.out | apply Kept.alloc | apply Kept.drewN | apply Kept.drew) | exact HK.out)⟩, ⟨aH HB⟩⟩
  case round =>
   clear H'
   try clear p2
   obtain ⟨x10_1, rfl, HA, HK1, HO_0, HO_8, HK, HB⟩ := hrel
   cases gk with
   | zero => exact absurd HA.out (by simp [valuation_checked.l0])
   | succ k1 =>
    have H := HA.out
    clear HA
    simp only [valuation_checked.l0] at H
    by_cases c3 : x10_1 < (l0.length : Int)
    ·rw [if_pos c3] at H
     have c3b0 : decide (x10_1 < (l0.length : Int)) = true := decide_eq_true c3
     clear c3
     by_cases c4 : 0 ≤ x10_1
     ·rw [if_pos c4] at H
      have c4b0 : decide (0 ≤ x10_1) = true := decide_eq_true c4
      clear c4
      by_cases c5 : x10_1 < (l0.length : Int)
      ·rw [if_pos c5] at H
       have c5b0 : decide (x10_1 < (l0.length : Int)) = true := decide_eq_true c5
       clear c5
       by_cases c6 : (rd l0 x10_1) < 0
       ·rw [if_pos c6] at H
        have c6b0 : decide ((rd l0 x10_1) < 0) = true := decide_eq_true c6
        clear c6
        simp only [Option.some.injEq, Prod.mk.injEq] at H
        obtain ⟨rfl, rfl⟩ := H
        have p233 : 0 ≤ (x10_1 : Int) := of_decide_eq_true (by first | (with_reducible assumption) | assumption)
        have q233 : x10_1 < (l0.length : Int) := of_decide_eq_true (by first | (with_reducible assumption) | assumption)
        obtain ⟨ad233, e233, hx233_0⟩ := Kd.at_int (Kd.R_reads' HO_8.out).2.2 x10_1 p233 q233
        cases e233
        replace p233 := eq_true p233
        replace q233 := eq_true q233
        go_wp2
        go_ret2
        exact ⟨_, by first | rfl | (simp [errW_none, errW_some] <;> rfl) | (simp [*, errW_none, errW_some] <;> rfl) | (simp (disch := first | assumption | omega) only [Int.tdiv_eq_ediv_of_nonneg, Int.tmod_eq_emod_of_nonneg]; rfl), by first | exact Kd.R_nil _ _ _ _ _ | exact Kd.N_nil _ _ _ _ _ | exact Kd.V_nil _ _ _ _ _ | exact Kd.Q_nil _ _ _ _ _ | exact Kd.S_nil _ _ _ _ _, aH HB, by repeat (first | (with_reducible first | exact HK.out | apply Kept.alloc | apply Kept.drewN | apply Kept.drew) | exact HK.out)⟩
       ·rw [if_neg c6] at H
        have c6b0 : decide ((rd l0 x10_1) < 0) = false := decide_eq_false c6
        clear c6
        have H' := Aside0.mk H
        clear H
        have p233 : 0 ≤ (x10_1 : Int) := of_decide_eq_true (by first | (with_reducible assumption) | assumption)
        have q233 : x10_1 < (l0.length : Int) := of_decide_eq_true (by first | (with_reducible assumption) | assumption)
        obtain ⟨ad233, e233, hx233_0⟩ := Kd.at_int (Kd.R_reads' HO_8.out).2.2 x10_1 p233 q233
        cases e233
        replace p233 := eq_true p233
        replace q233 := eq_true q233
        go_wp2
        go_roundg k1
        case measure => have := HK1.out; omega
        case rel => exact ⟨(wrap64 (x10_1 + 1)), (by first | rfl | (simp; done) | (simp [*]; done)), H', ⟨by have := HK1.out; omega⟩, ⟨aR HO_0⟩, ⟨aR HO_8⟩, ⟨by repeat (first | (with_reducible first | exact HK.out | apply Kept.alloc | apply Kept.drewN | apply Kept.drew) | exact HK.out)⟩, ⟨aH HB⟩⟩
      ·rw [if_neg c5] at H
       exact absurd H (by simp)
     ·rw [if_neg c4] at H
      exact absurd H (by simp)
    ·rw [if_neg c3] at H
     have c3b0 : decide (x10_1 < (l0.length : Int)) = false := decide_eq_false c3
     clear c3
     have H' := Aside0.mk H
     clear H
     go_wp2
     go_loopg [19] k1 (fun kq v19 w' => ∃ (x19_2 : Int), v19 = .int .i64 x19_2 ∧ Aside0 (valuation_checked.l1 kq l0 l0 (l0.length : Int) x19_2 = some (r1, r2)) ∧ Aside0 (kq ≤ k1) ∧ Aside0 (Kd.R (Kd.int .i64) 3 w' w0.heap.size (fun k_ => (P0_ k_ ∨ w.heap.size ≤ k_)) (.slice Ao2 l0.length co2) l0) ∧ Aside0 (Kd.R (Kd.int .i64) 3 w' w0.heap.size (fun k_ => (P0_ k_ ∨ w.heap.size ≤ k_)) (.slice Ao2 l0.length co2) l0) ∧ Aside0 (Kept w w' (fun k_ => P0_ k_)) ∧ Aside0 (Below w0.heap.size w0 w'))
     case atStart => exact ⟨(0), (by first | rfl | (simp; done) | (simp [*]; done)), H', ⟨Nat.le_refl _⟩, ⟨aR HO_0⟩, ⟨aR HO_0⟩, ⟨by repeat (first | (with_reducible first | exact HK.out | apply Kept.alloc | apply Kept.drewN | apply Kept.drew) | exact HK.out)⟩, ⟨aH HB⟩⟩
     case round =>
      clear H'
      try clear p2
      try clear q2
      try clear hx2
      try clear c3
      try clear c3b0
      try clear c4
      try clear c4b0
      try clear c5
      try clear c5b0
      try clear c6
      try clear c6b0
      try clear p6
      try clear hx233_0
      try clear p2
      try clear p233
      try clear q233
      obtain ⟨x19_2, rfl, HA, HK2, HO_0, HO_17, HK, HB⟩ := hrel
      cases gk with
      | zero => exact absurd HA.out (by simp [valuation_checked.l1])
      | succ k2 =>
       have H := HA.out
       clear HA
       simp only [valuation_checked.l1] at H
       by_cases c7 : x19_2 < (l0.length : Int)
       ·rw [if_pos c7] at H
        have c7b0 : decide (x19_2 < (l0.length : Int)) = true := decide_eq_true c7
        clear c7
        by_cases c8 : 0 ≤ x19_2
        ·rw [if_pos c8] at H
         have c8b0 : decide (0 ≤ x19_2) = true := decide_eq_true c8
         clear c8
         by_cases c9 : x19_2 < (l0.length : Int)
         ·rw [if_pos c9] at H
          have c9b0 : decide (x19_2 < (l0.length : Int)) = true := decide_eq_true c9
          clear c9
          by_cases c10 : (rd l0 x19_2) > 1000000000000
          ·rw [if_pos c10] at H
           have c10b0 : decide (1000000000000 < (rd l0 x19_2)) = true := decide_eq_true c10
           clear c10
           simp only [Option.some.injEq, Prod.mk.injEq] at H
           obtain ⟨rfl, rfl⟩ := H
           have p234 : 0 ≤ (x19_2 : Int) := of_decide_eq_true (by first | (with_reducible assumption) | assumption)
           have q234 : x19_2 < (l0.length : Int) := of_decide_eq_true (by first | (with_reducible assumption) | assumption)
           obtain ⟨ad234, e234, hx234_0⟩ := Kd.at_int (Kd.R_reads' HO_17.out).2.2 x19_2 p234 q234
           cases e234
           replace p234 := eq_true p234
           replace q234 := eq_true q234
           go_wp2
           go_ret2
           exact ⟨_, by first | rfl | (simp [errW_none, errW_some] <;> rfl) | (simp [*, errW_none, errW_some] <;> rfl) | (simp (disch := first | assumption | omega) only [Int.tdiv_eq_ediv_of_nonneg, Int.tmod_eq_emod_of_nonneg]; rfl), by first | exact Kd.R_nil _ _ _ _ _ | exact Kd.N_nil _ _ _ _ _ | exact Kd.V_nil _ _ _ _ _ | exact Kd.Q_nil _ _ _ _ _ | exact Kd.S_nil _ _ _ _ _, aH HB, by repeat (first | (with_reducible first | exact HK.out | apply Kept.alloc | apply Kept.drewN | apply Kept.drew) | exact HK.out)⟩
          ·rw [if_neg c10] at H
           have c10b0 : decide (1000000000000 < (rd l0 x19_2)) = false := decide_eq_false c10
           clear c10
           have H' := Aside0.mk H
           clear H
           have p234 : 0 ≤ (x19_2 : Int) := of_decide_eq_true (by first | (with_reducible assumption) | assumption)
           have q234 : x19_2 < (l0.length : Int) := of_decide_eq_true (by first | (with_reducible assumption) | assumption)
           obtain ⟨ad234, e234, hx234_0⟩ := Kd.at_int (Kd.R_reads' HO_17.out).2.2 x19_2 p234 q234
           cases e234
           replace p234 := eq_true p234
           replace q234 := eq_true q234
           go_wp2
           go_roundg k2
           case measure => have := HK1.out; have := HK2.out; omega
           case rel => exact ⟨(wrap64 (x19_2 + 1)), (by first | rfl | (simp; done) | (simp [*]; done)), H', ⟨by have := HK1.out; have := HK2.out; omega⟩, ⟨aR HO_0⟩, ⟨aR HO_17⟩, ⟨by repeat (first | (with_reducible first | exact HK.out | apply Kept.alloc | apply Kept.drewN | apply Kept.drew) | exact HK.out)⟩, ⟨aH HB⟩⟩
         ·rw [if_neg c9] at H
          exact absurd H (by simp)
        ·rw [if_neg c8] at H
         exact absurd H (by simp)
       ·rw [if_neg c7] at H
        have c7b0 : decide (x19_2 < (l0.length : Int)) = false := decide_eq_false c7
        clear c7
        simp only [Option.some.injEq, Prod.mk.injEq] at H
        obtain ⟨rfl, rfl⟩ := H
        go_wp2
        go_ret2
        exact ⟨_, by first | rfl | (simp [errW_none, errW_some] <;> rfl) | (simp [*, errW_none, errW_some] <;> rfl) | (simp (disch := first | assumption | omega) only [Int.tdiv_eq_ediv_of_nonneg, Int.tmod_eq_emod_of_nonneg]; rfl), aR HO_0, aH HB, by repeat (first | (with_reducible first | exact HK.out | apply Kept.alloc | apply Kept.drewN | apply Kept.drew) | exact HK.out)⟩

end Go.Proofs.Yteoieencagcgdaa.PX
end
section
namespace Go.Proofs.Yteoieencagcgdaa.PX
open Go.RowKit Go.Proofs.YteoieencagcgdaaW.PrintWords Go.Proofs.YteoieencagcgdaaW.PrintLast Go.Proofs.YteoieencagcgdaaW.PrintMore
attribute [local go_sem] max2_int min2_int max_two min_two max_three min_three max_four min_four
set_option linter.unusedVariables false
set_option linter.unusedSimpArgs false

theorem RowAt.lt {W : World} {g n : Nat} {t : TypeId} {f : Nat → Value} (h : RowAt W g n t f) : g < W.heap.size := by
  obtain ⟨cur, _, hb, _⟩ := h
  exact blk_lt hb
theorem range_map35 (l : List S35) (F : Nat → Int) (G : S35 → Int) (h : ∀ p, p < l.length → F p = G (rd_T35 l (p : Int))) : (List.range l.length).map F = l.map G := by
  apply List.ext_getElem (by simp)
  intro i h1 h2
  have h3 : i < l.length := by simpa using h1
  rw [List.getElem_map, List.getElem_map, List.getElem_range, h i h3]
  unfold rd_T35
  rw [Int.toNat_natCast, List.getD_eq_getElem?_getD, List.getElem?_eq_getElem h3]
  rfl
structure PW (w0 : World) (gp gw n : Nat) (P Q : Nat → Int) (W : World) : Prop where
  rp : RowAt W gp n 3 (fun i => .int .i64 (P i))
  rq : RowAt W gw n 3 (fun i => .int .i64 (Q i))
  bel : Below w0.heap.size w0 W
theorem PW.below {w0 W W1 : World} {gp gw n : Nat} {P Q : Nat → Int} (h : PW w0 gp gw n P Q W) (hb : Below W.heap.size W W1) : PW w0 gp gw n P Q W1 := ⟨h.rp.below hb, h.rq.below hb, below_step h.bel hb⟩
theorem PW.drewN {w0 W : World} {gp gw n : Nat} {P Q : Nat → Int} (h : PW w0 gp gw n P Q W) (m : Nat) : PW w0 gp gw n P Q (W.drewN m) := ⟨h.rp, h.rq, pw_below_drewN h.bel m⟩
theorem PW.setP {w0 W : World} {gp gw n : Nat} {P Q : Nat → Int} (h : PW w0 gp gw n P Q W) (hl : w0.heap.size ≤ gp) (hne : gp ≠ gw) (i : Nat) (hi : i < n) (v : Int) : PW w0 gp gw n (upd P i v) Q (W.setCell ⟨gp, i, none⟩ (.int .i64 v)) :=
  ⟨(h.rp.set i hi _).congr (fun k _ => upd_val _ _ _ _ _), h.rq.far (p := ⟨gp, i, none⟩) hne.symm _, below_set h.bel hl⟩
theorem PW.setQ {w0 W : World} {gp gw n : Nat} {P Q : Nat → Int} (h : PW w0 gp gw n P Q W) (hl : w0.heap.size ≤ gw) (hne : gp ≠ gw) (i : Nat) (hi : i < n) (v : Int) : PW w0 gp gw n P (upd Q i v) (W.setCell ⟨gw, i, none⟩ (.int .i64 v)) :=
  ⟨h.rp.far (p := ⟨gw, i, none⟩) hne _, (h.rq.set i hi _).congr (fun k _ => upd_val _ _ _ _ _), below_set h.bel hl⟩
theorem PW.far {w0 W : World} {gp gw n : Nat} {P Q : Nat → Int} (h : PW w0 gp gw n P Q W) {g i : Nat} (hl : w0.heap.size ≤ g) (h1 : gp ≠ g) (h2 : gw ≠ g) (v : Value) : PW w0 gp gw n P Q (W.setCell ⟨g, i, none⟩ v) :=
  ⟨h.rp.far (p := ⟨g, i, none⟩) h1 _, h.rq.far (p := ⟨g, i, none⟩) h2 _, below_set h.bel hl⟩
theorem PW.start {w0 W : World} (n : Nat) (hb : Below w0.heap.size w0 W) : PW w0 W.heap.size (W.heap.size + 1) n (fun _ => 0) (fun _ => 0) ((W.alloc (Obj.cells (madeCells #[Value.int IntKind.i64 0] n) 3)).alloc (Obj.cells (madeCells #[Value.int IntKind.i64 0] n) 3)) := by
  have z1 := heap_size_alloc W (Obj.cells (madeCells #[Value.int IntKind.i64 0] n) 3)
  have a1 := RowAt.made W .i64 n 3
  have a2 := RowAt.made (W.alloc (Obj.cells (madeCells #[Value.int IntKind.i64 0] n) 3)) .i64 n 3
  rw [z1] at a2
  exact ⟨a1.below (below_alloc (Below.refl _ _) _), a2, below_step (below_step hb (below_alloc (Below.refl _ _) _)) (below_alloc (Below.refl _ _) _)⟩
theorem RowAt.rowN {W : World} {g n base : Nat} {f : Nat → Int} (h : RowAt W g n 3 (fun i => .int .i64 (f i))) (hg : base ≤ g) (hn : n ≤ 1000) (o : Option Nat) (ho : some g ≠ o) : Kd.R (Kd.int .i64) 3 W base (fun k_ => some k_ ≠ o) (.slice (some ⟨g, 0, none⟩) n n) ((List.range n).map f) := by
  refine ⟨fun k hk => ?_, (h.row (base := base) hg hn).2.imp_ (fun _ _ hp => hp)⟩
  have : g = k := by simpa [Value.ownBlock] using hk
  exact this ▸ ho
def valuation_weights.f (a0_0 : ByteArray) (a0_1 : Int) (l0_2 : List S35) (l0_3 : List S33) : Option (List Int × List Int) := if l0_2.length ≤ 1000 then some (l0_2.map (·.f0), l0_2.map (·.f1)) else none
set_option maxHeartbeats 4000000 in
set_option maxRecDepth 100000 in
theorem valuation_weights.calls (a0_0 : ByteArray) (a0_1 : Int) (A0_2 : Option Addr) (c0_2 : Nat) (l0_2 : List (S35)) (A0_3 : Option Addr) (c0_3 : Nat) (l0_3 : List (S33)) (r1 r2 : List Int) (w : World) (hr0_2 : Kd.C k35 w A0_2 l0_2.length l0_2) (hc0_2 : l0_2.length ≤ c0_2) (hr0_3 : Kd.C k33 w A0_3 l0_3.length l0_3) (hc0_3 : l0_3.length ≤ c0_3) (h : valuation_weights.f a0_0 a0_1 l0_2 l0_3 = some (r1, r2)) :
    Calls Try.prog 29 #[.agg #[.string a0_0, .int .i64 a0_1, .slice A0_2 l0_2.length c0_2, .slice A0_3 l0_3.length c0_3]] w fun e w' => ∃ v0_ v1_ : Value, e = .returned (.tuple #[v0_, v1_]) ∧ Kd.R (Kd.int .i64) 3 w' w.heap.size (fun k_ => some k_ ≠ (v1_ : Value).ownBlock) v0_ r1 ∧ Kd.R (Kd.int .i64) 3 w' w.heap.size (fun k_ => some k_ ≠ (v0_ : Value).ownBlock) v1_ r2 ∧ Below w.heap.size w w' := by
  have hu25 := Try.underlying25
  have hu35 := Try.underlying35
  unfold valuation_weights.f at h
  by_cases hn : l0_2.length ≤ 1000
  case neg => rw [if_neg hn] at h; exact absurd h (by simp)
  rw [if_pos hn] at h
  simp only [Option.some.injEq, Prod.mk.injEq] at h
  obtain ⟨rfl, rfl⟩ := h
  have hm1 := fun w => make_ints l0_2.length hn w
  have HB := Aside0.mk (Below.refl w.heap.size w)
  have HR := Aside0.mk hr0_2
  have HN := Aside0.mk hn
  clear hr0_2 hc0_2 hr0_3 hc0_3 hn
  go_enter Try.func29, Try.ntmps29
  go_wp2_with (first | ((with_reducible refine gate_dst (N := 1) rfl ?_); refine box_event ?hg (N := 1) ?hd (cs := #[.string a0_0, .int .i64 a0_1, .slice A0_2 l0_2.length c0_2, .slice A0_3 l0_3.length c0_3]) (t := 25) ?hr ?_; (case hd => rfl); (case hg => rfl); (case hr => first | (go_simp; done) | (go_simp; rfl)); intro gb hg w3 hbox hb; have z2 : w3.cell? ⟨gb, 2, none⟩ = some (.slice A0_2 l0_2.length c0_2) := (blk_cell hbox 2).trans rfl; have z2a : ∀ o : Obj, (w3.alloc o).cell? ⟨gb, 2, none⟩ = some (.slice A0_2 l0_2.length c0_2) := fun o => (blk_cell (blk_below hbox (below_alloc (Below.refl _ _) o)) 2).trans rfl; have z2b : ∀ o p : Obj, ((w3.alloc o).alloc p).cell? ⟨gb, 2, none⟩ = some (.slice A0_2 l0_2.length c0_2) := fun o p => (blk_cell (blk_below (blk_below hbox (below_alloc (Below.refl _ _) o)) (below_alloc (Below.refl _ _) p)) 2).trans rfl; have HB3 := Aside0.mk (below_step HB.out hb); clear hbox hb hg))
  have HPW0 := Aside0.mk (PW.start l0_2.length HB3.out)
  have hgp : w.heap.size ≤ w3.heap.size := HB3.out.size
  have hgw : w.heap.size ≤ w3.heap.size + 1 := by omega
  have hne : w3.heap.size ≠ w3.heap.size + 1 := by omega
  generalize ((w3.alloc (Obj.cells (madeCells #[Value.int IntKind.i64 0] l0_2.length) 3)).alloc (Obj.cells (madeCells #[Value.int IntKind.i64 0] l0_2.length) 3)) = W0 at HPW0 ⊢
  generalize w3.heap.size + 1 = gw at HPW0 hgw hne ⊢
  generalize w3.heap.size = gp at HPW0 hgp hne ⊢
  clear z2 z2a z2b HB3 HB hm1
  go_loopw [19] (fun v wr => ∃ (i : Nat) (P Q : Nat → Int), v = .int .i64 i ∧ i ≤ l0_2.length ∧ Aside0 (PW w gp gw l0_2.length P Q wr) ∧ Aside0 (∀ p, p < i → P p = (rd_T35 l0_2 p).f0 ∧ Q p = (rd_T35 l0_2 p).f1)) (fun v _ => l0_2.length - (intOf v).toNat)
  case atStart => exact ⟨0, _, _, rfl, Nat.zero_le _, HPW0, ⟨fun p hp => absurd hp (by omega)⟩⟩
  case round =>
    clear HPW0
    obtain ⟨i, P, Q, rfl, hi, HP, HV⟩ := hrel
    by_cases c : i < l0_2.length
    · have d : decide ((i : Int) < (l0_2.length : Int)) = true := decide_eq_true (by omega)
      have p0 : (0 : Int) ≤ (i : Int) := by omega
      have q0 : (i : Int) < (l0_2.length : Int) := by omega
      obtain ⟨ad, e, x0, x1⟩ := at_T35 HR.out (i : Int) p0 q0
      cases e
      rw [show ((i : Int)).toNat = i from Int.toNat_natCast i] at x0 x1
      replace x0 := (HP.out.bel.cell (World.block_lt_of_cell? w _ x0)).trans x0
      replace x1 := (HP.out.bel.cell (World.block_lt_of_cell? w _ x1)).trans x1
      go_wp2_with (first | ((with_reducible refine gate_dst (N := 7) rfl ?_); refine box_event ?hg (N := 7) ?hd (cs := #[.int .i64 0, .int .i64 0]) (t := 35) ?hr ?_; (case hd => rfl); (case hg => rfl); (case hr => first | (go_simp; done) | (go_simp; rfl)); intro gb hg w4 hbox hb; have z0 : w4.cell? ⟨gb, 0, none⟩ = some (.int .i64 0) := (blk_cell hbox 0).trans rfl; have z1 : w4.cell? ⟨gb, 1, none⟩ = some (.int .i64 0) := (blk_cell hbox 1).trans rfl; have y0 := blk_frozen hbox 0; have y1 := blk_frozen hbox 1; have BK := Aside0.mk hbox; have HP4 := Aside0.mk (HP.out.below hb); have GB : Aside0 (w.heap.size ≤ gb ∧ gp ≠ gb ∧ gw ≠ gb) := ⟨by have l1 := HP.out.rp.lt; have l2 := HP.out.rq.lt; omega⟩; clear hbox hb hg))
      obtain ⟨G1, G2, G3⟩ := GB.out
      have HP5 := Aside0.mk ((HP4.out.far (i := 0) G1 G2 G3 (.int .i64 (rd_T35 l0_2 i).f0)).far (i := 1) G1 G2 G3 (.int .i64 (rd_T35 l0_2 i).f1))
      have BK5 := blk_put (cs := #[.int .i64 (rd_T35 l0_2 i).f0, .int .i64 0]) (blk_put (cs := #[.int .i64 0, .int .i64 0]) BK.out 0 (.int .i64 (rd_T35 l0_2 i).f0) rfl) 1 (.int .i64 (rd_T35 l0_2 i).f1) rfl
      generalize ((w4.setCell ⟨gb, 0, none⟩ (.int .i64 (rd_T35 l0_2 i).f0)).setCell ⟨gb, 1, none⟩ (.int .i64 (rd_T35 l0_2 i).f1)) = W5 at HP5 BK5 ⊢
      clear z0 z1 y0 y1 BK HP4 x0 x1 GB
      have z0 : W5.cell? ⟨gb, 0, none⟩ = some (.int .i64 (rd_T35 l0_2 i).f0) := (blk_cell BK5 0).trans rfl
      have z1 : W5.cell? ⟨gb, 1, none⟩ = some (.int .i64 (rd_T35 l0_2 i).f1) := (blk_cell BK5 1).trans rfl
      have cp := HP5.out.rp.cell i c
      have cq := HP5.out.rq.cell i c
      have fp := HP5.out.rp.free i
      have fq := HP5.out.rq.free i
      have HP6 := Aside0.mk (HP5.out.setP hgp hne i c (rd_T35 l0_2 i).f0)
      have BK6 := blk_far BK5 (p := ⟨gp, i, none⟩) G2.symm (.int .i64 (rd_T35 l0_2 i).f0)
      have z06 := (blk_cell BK6 0).trans (show _ = some (Value.int .i64 (rd_T35 l0_2 i).f0) from rfl)
      have z16 := (blk_cell BK6 1).trans (show _ = some (Value.int .i64 (rd_T35 l0_2 i).f1) from rfl)
      have cq6 := HP6.out.rq.cell i c
      have fq6 := HP6.out.rq.free i
      have HP7 := Aside0.mk (HP6.out.setQ hgw hne i c (rd_T35 l0_2 i).f1)
      clear BK5 BK6 HP
      go_region
      all_goals (try go_wp2)
      have hn1 := HN.out
      have wi : wrap64 ((i : Int) + 1) = ((i + 1 : Nat) : Int) := by unfold wrap64; omega
      rw [wi]
      refine ⟨⟨i + 1, _, _, rfl, c, ⟨HP7.out.drewN 1⟩, ⟨fun p hp => ?_⟩⟩, by simp only [intOf]; omega⟩
      by_cases e : p = i
      · subst e; exact ⟨upd_self _ _ _, upd_self _ _ _⟩
      · have := HV.out p (by omega)
        exact ⟨this.1 ▸ if_neg e, this.2 ▸ if_neg e⟩
    · have d : decide ((i : Int) < (l0_2.length : Int)) = false := decide_eq_false (by omega)
      obtain rfl : i = l0_2.length := by omega
      go_wp2
      go_ret2
      refine ⟨_, _, rfl, ?_, ?_, HP.out.bel⟩
      · have := HP.out.rp.rowN (base := w.heap.size) hgp HN.out (some gw) (fun e => hne (Option.some.inj e))
        rw [show (List.range l0_2.length).map P = l0_2.map (·.f0) from range_map35 _ _ _ (fun p hp => (HV.out p hp).1)] at this
        exact this
      · have := HP.out.rq.rowN (base := w.heap.size) hgw HN.out (some gp) (fun e => hne (Option.some.inj e).symm)
        rw [show (List.range l0_2.length).map Q = l0_2.map (·.f1) from range_map35 _ _ _ (fun p hp => (HV.out p hp).2)] at this
        exact this

end Go.Proofs.Yteoieencagcgdaa.PX
end
section
namespace Go.Proofs.Yteoieencagcgdaa.PX
open Go.RowKit Go.Proofs.YteoieencagcgdaaW.PrintWords Go.Proofs.YteoieencagcgdaaW.PrintLast Go.Proofs.YteoieencagcgdaaW.PrintMore
attribute [local go_sem] max2_int min2_int max_two min_two max_three min_three max_four min_four
set_option linter.unusedVariables false
set_option linter.unusedSimpArgs false

theorem copy_all {ys xs : List Int} (h : ys.length = xs.length) : ys.take (min ys.length xs.length) ++ xs.drop (min ys.length xs.length) = ys := by
  rw [h, Nat.min_self, List.drop_length, List.append_nil, ← h, List.take_length]
theorem R_old_lt {w w1 : World} {base : Nat} {ok : Nat → Prop} {v : Value} {xs : List Int} (h : Kd.R (Kd.int .i64) 3 w base ok v xs) (hg : w.grownBy w1 none) : Kd.R (Kd.int .i64) 3 w1 base (fun k => k < w.heap.size) v xs :=
  Kd.R_grown (Kd.R_mono (Kd.R_bound h) (fun k hk => hk.2.2.1)) hg (fun k _ e => by cases e)
theorem new_ne {w : World} {v : Value} (hn : ∃ b, v.ownBlock = some b ∧ w.heap.size ≤ b) : ∀ k, k < w.heap.size → some k ≠ v.ownBlock := by
  obtain ⟨b, hb, hl⟩ := hn
  intro k hk e
  rw [hb] at e
  have := Option.some.inj e
  omega
def valuation_divide.f (k : Nat) (a0_0 : ByteArray) (a0_1 : Int) (l0_2 : List S35) (l0_3 : List S33) (a1_0 : Int) (a1_1 : Int) (a1_2 : ByteArray) (a1_3 : Int) (a1_4 : Int) (a2 : Int) : Option (List Int) :=
  (valuation_weights.f a0_0 a0_1 l0_2 l0_3).bind fun t => if a1_3 = 3 then (if 0 ≤ a1_4 ∧ a1_4 < (l0_2.length : Int) then some ((List.replicate l0_2.length 0).set a1_4.toNat a2) else none) else (apportion_Share.f k a2 (if a1_3 = 2 then t.2 else t.1)).bind fun s => some s.1
theorem weights_len {a0_0 : ByteArray} {a0_1 : Int} {l0_2 : List S35} {l0_3 : List S33} {p q : List Int} (h : valuation_weights.f a0_0 a0_1 l0_2 l0_3 = some (p, q)) : p.length = l0_2.length ∧ q.length = l0_2.length ∧ l0_2.length ≤ 1000 := by
  unfold valuation_weights.f at h
  by_cases hn : l0_2.length ≤ 1000
  · rw [if_pos hn] at h
    simp only [Option.some.injEq, Prod.mk.injEq] at h
    obtain ⟨rfl, rfl⟩ := h
    exact ⟨by simp, by simp, hn⟩
  · rw [if_neg hn] at h; exact absurd h (by simp)
set_option maxHeartbeats 4000000 in
set_option maxRecDepth 100000 in
theorem valuation_divide.calls (k : Nat) (a0_0 : ByteArray) (a0_1 : Int) (A0_2 : Option Addr) (c0_2 : Nat) (l0_2 : List (S35)) (A0_3 : Option Addr) (c0_3 : Nat) (l0_3 : List (S33)) (a1_0 : Int) (a1_1 : Int) (a1_2 : ByteArray) (a1_3 : Int) (a1_4 : Int) (a2 : Int) (r : List Int) (w : World) (hr0_2 : Kd.C k35 w A0_2 l0_2.length l0_2) (hc0_2 : l0_2.length ≤ c0_2) (hr0_3 : Kd.C k33 w A0_3 l0_3.length l0_3) (hc0_3 : l0_3.length ≤ c0_3) (h : valuation_divide.f k a0_0 a0_1 l0_2 l0_3 a1_0 a1_1 a1_2 a1_3 a1_4 a2 = some r) :
    Calls Try.prog 33 #[.agg #[.string a0_0, .int .i64 a0_1, .slice A0_2 l0_2.length c0_2, .slice A0_3 l0_3.length c0_3], .agg #[.int .i64 a1_0, .int .i64 a1_1, .string a1_2, .int .i64 a1_3, .int .i64 a1_4], .int .i64 a2] w fun e w' => ∃ v0_ : Value, e = .returned v0_ ∧ Kd.R (Kd.int .i64) 3 w' w.heap.size (fun _ => True) v0_ r ∧ Below w.heap.size w w' := by
  have hu25 := Try.underlying25
  have hu33 := Try.underlying33
  obtain ⟨i3, hi3, _, hs3, _⟩ := info_parts info3
  have hsz : (Try.prog.info? 3).map (·.size) = some 1 := by rw [hi3]; exact congrArg some hs3
  clear hi3 hs3
  unfold valuation_divide.f at h
  replace h := Option.bind_eq_some_iff.mp h
  obtain ⟨⟨p, q⟩, hw, h⟩ := h
  dsimp only at h
  have HW := Aside0.mk hw
  have HL := Aside0.mk (weights_len hw)
  clear hw
  have HR2 := Aside0.mk hr0_2
  have HR3 := Aside0.mk hr0_3
  have HC2 := Aside0.mk hc0_2
  have HC3 := Aside0.mk hc0_3
  have HZ := Aside0.mk hsz
  have HB := Aside0.mk (Below.refl w.heap.size w)
  clear hr0_2 hc0_2 hr0_3 hc0_3 hsz
  have m0 : decide ((l0_2.length : Int) < 0) = false := decide_eq_false (by omega)
  by_cases c3 : a1_3 = 3
  · rw [if_pos c3] at h
    subst c3
    by_cases ci : 0 ≤ a1_4 ∧ a1_4 < (l0_2.length : Int)
    case neg => rw [if_neg ci] at h; exact absurd h (by simp)
    rw [if_pos ci] at h
    obtain rfl := Option.some.inj h
    clear h
    obtain ⟨p0, q0⟩ := ci
    have hn0 : 0 < l0_2.length := by omega
    have q0' : a1_4 < ((List.replicate l0_2.length (0 : Int)).length : Int) := by rw [List.length_replicate]; exact q0
    go_enter Try.func33, Try.ntmps33
    go_wp2_with (first
      | ((with_reducible refine gate_dst (N := 3) rfl ?_); refine box_event ?hg (N := 3) ?hd (cs := #[.string a0_0, .int .i64 a0_1, .slice A0_2 l0_2.length c0_2, .slice A0_3 l0_3.length c0_3]) (t := 25) ?hr ?_; (case hd => rfl); (case hg => rfl); (case hr => first | (go_simp; done) | (go_simp; rfl)); intro gb hg w3 hbox hb; have BK3 := Aside0.mk hbox; have HB3 := Aside0.mk (below_step HB.out hb); clear hbox hb hg)
      | ((with_reducible refine gate_dst (N := 4) rfl ?_); refine box_event ?hg (N := 4) ?hd (cs := #[.int .i64 a1_0, .int .i64 a1_1, .string a1_2, .int .i64 3, .int .i64 a1_4]) (t := 33) ?hr ?_; (case hd => rfl); (case hg => rfl); (case hr => first | (go_simp; done) | (go_simp; rfl)); intro gc hg w4 hbox hb; have BK4 := Aside0.mk hbox; have BG4 := Aside0.mk (blk_below BK3.out hb); have HB4 := Aside0.mk (below_step HB3.out hb); have z0 : w4.cell? ⟨gb, 0, none⟩ = some (.string a0_0) := (blk_cell BG4.out 0).trans rfl; have z1 : w4.cell? ⟨gb, 1, none⟩ = some (.int .i64 a0_1) := (blk_cell BG4.out 1).trans rfl; have z2 : w4.cell? ⟨gb, 2, none⟩ = some (.slice A0_2 l0_2.length c0_2) := (blk_cell BG4.out 2).trans rfl; have z3 : w4.cell? ⟨gb, 3, none⟩ = some (.slice A0_3 l0_3.length c0_3) := (blk_cell BG4.out 3).trans rfl; clear hbox hb hg)
      | (go_at_call 29; (with_reducible refine (valuation_weights.calls _ _ _ _ _ _ _ _ p q _ (Kd.C_below HR2.out HB4.out) HC2.out (Kd.C_below HR3.out HB4.out) HC3.out HW.out).mono ?_); rintro e w5 ⟨vp, vw, rfl, hp, hq, hb⟩; have BK5 := Aside0.mk (blk_below BK4.out hb); have BG5 := Aside0.mk (blk_below BG4.out hb); have HB5 := Aside0.mk (below_step HB4.out hb); have t2 : w5.cell? ⟨gb, 2, none⟩ = some (.slice A0_2 l0_2.length c0_2) := (blk_cell BG5.out 2).trans rfl; have y3 : w5.cell? ⟨gc, 3, none⟩ = some (.int .i64 3) := (blk_cell BK5.out 3).trans rfl; clear hp hq hb)
      | ((with_reducible refine gate_dst (N := 24) rfl ?_); refine Kd.R_make (Kd.int .i64) w.heap.size 3 rfl (N := 24) rfl 26 _ _ rfl (l0_2.length : Int) rfl rfl Try.underlying26 (.int .i64 0) 8 info3 rfl (by decide) (by omega) 0 (ok := fun _ => True) (okp := fun _ => True) rfl (fun _ hk => hk) trivial (by omega) (by have := HL.out.2.2; omega) HB5.out HB5.out.size ?_; intro v w6 ho hb hg hnew; have BK6 := Aside0.mk (blk_grown BK5.out hg (by simp)); rw [Int.toNat_natCast] at ho; obtain ⟨g, cap, rfl, hgb, _⟩ := Kd.R_form ho (by rw [List.length_replicate]; exact hn0); have HO := Aside0.mk ho; have HB6 := Aside0.mk hb; have HGB := Aside0.mk hgb; have y4 : w6.cell? ⟨gc, 4, none⟩ = some (.int .i64 a1_4) := (blk_cell BK6.out 4).trans rfl; rw [List.length_replicate] at *; obtain ⟨u1, u2⟩ := Kd.R_celln 0 HO.out a1_4 p0 q0; clear ho hb hg hnew hgb))
    go_ret
    refine ⟨_, rfl, ?_, ?_⟩
    · exact Kd.R_putn HO.out a1_4 a2
    · exact below_set HB6.out HGB.out
  · rw [if_neg c3] at h
    have d3 : decide (a1_3 = 3) = false := decide_eq_false c3
    have d3b : (a1_3 == 3) = false := by simpa using c3
    replace h := Option.bind_eq_some_iff.mp h
    obtain ⟨⟨s, e0⟩, hs, h⟩ := h
    obtain rfl : s = r := Option.some.inj h
    clear h
    by_cases c2 : a1_3 = 2
    · rw [if_pos c2] at hs
      (try dsimp only at hs)
      subst c2
      have HS := Aside0.mk hs
      clear hs c3 d3 d3b
      go_enter Try.func33, Try.ntmps33
      go_wp2_with (first
        | ((with_reducible refine gate_dst (N := 3) rfl ?_); refine box_event ?hg (N := 3) ?hd (cs := #[.string a0_0, .int .i64 a0_1, .slice A0_2 l0_2.length c0_2, .slice A0_3 l0_3.length c0_3]) (t := 25) ?hr ?_; (case hd => rfl); (case hg => rfl); (case hr => first | (go_simp; done) | (go_simp; rfl)); intro gb hg w3 hbox hb; have BK3 := Aside0.mk hbox; have HB3 := Aside0.mk (below_step HB.out hb); clear hbox hb hg)
        | ((with_reducible refine gate_dst (N := 4) rfl ?_); refine box_event ?hg (N := 4) ?hd (cs := #[.int .i64 a1_0, .int .i64 a1_1, .string a1_2, .int .i64 2, .int .i64 a1_4]) (t := 33) ?hr ?_; (case hd => rfl); (case hg => rfl); (case hr => first | (go_simp; done) | (go_simp; rfl)); intro gc hg w4 hbox hb; have BK4 := Aside0.mk hbox; have BG4 := Aside0.mk (blk_below BK3.out hb); have HB4 := Aside0.mk (below_step HB3.out hb); have z0 : w4.cell? ⟨gb, 0, none⟩ = some (.string a0_0) := (blk_cell BG4.out 0).trans rfl; have z1 : w4.cell? ⟨gb, 1, none⟩ = some (.int .i64 a0_1) := (blk_cell BG4.out 1).trans rfl; have z2 : w4.cell? ⟨gb, 2, none⟩ = some (.slice A0_2 l0_2.length c0_2) := (blk_cell BG4.out 2).trans rfl; have z3 : w4.cell? ⟨gb, 3, none⟩ = some (.slice A0_3 l0_3.length c0_3) := (blk_cell BG4.out 3).trans rfl; clear hbox hb hg)
        | (go_at_call 29; (with_reducible refine (valuation_weights.calls _ _ _ _ _ _ _ _ p q _ (Kd.C_below HR2.out HB4.out) HC2.out (Kd.C_below HR3.out HB4.out) HC3.out HW.out).mono ?_); rintro e w5 ⟨vp, vw, rfl, hp, hq, hb⟩; obtain ⟨Ap, cp, rfl⟩ := Kd.R_slice hp; obtain ⟨Aq, cq, rfl⟩ := Kd.R_slice hq; have HP5 := Aside0.mk hp; have HQ5 := Aside0.mk hq; have BK5 := Aside0.mk (blk_below BK4.out hb); have BG5 := Aside0.mk (blk_below BG4.out hb); have HB5 := Aside0.mk (below_step HB4.out hb); have t2 : w5.cell? ⟨gb, 2, none⟩ = some (.slice A0_2 l0_2.length c0_2) := (blk_cell BG5.out 2).trans rfl; have y3 : w5.cell? ⟨gc, 3, none⟩ = some (.int .i64 2) := (blk_cell BK5.out 3).trans rfl; clear hp hq hb)
        | ((with_reducible refine gate_dst (N := 34) rfl ?_); refine Kd.R_make (Kd.int .i64) w.heap.size 3 rfl (N := 34) rfl 26 _ _ rfl (l0_2.length : Int) rfl rfl Try.underlying26 (.int .i64 0) 8 info3 rfl (by decide) (by omega) 0 (ok := fun _ => True) (okp := fun _ => True) rfl (fun _ hk => hk) trivial (by omega) (by have := HL.out.2.2; omega) HB5.out HB5.out.size ?_; intro v w6 ho hb hg hnew; have BK6 := Aside0.mk (blk_grown BK5.out hg (by simp)); rw [Int.toNat_natCast] at ho; have HP6 := Aside0.mk (R_old_lt HP5.out hg); have HQ6 := Aside0.mk (R_old_lt HQ5.out hg); have NE := Aside0.mk (new_ne hnew); have GC := Aside0.mk (blk_lt BK5.out); have HO6 := Aside0.mk ho; have HB6 := Aside0.mk hb; clear ho hb hg hnew)
        | ((with_reducible refine gate_builtin (b := .copy) (xs := #[.tmp 35, .tmp 36]) rfl ?_); refine Kd.R_copy (0 : Int) (w0 := w) w.heap.size rfl (.tmp 35) (.tmp 36) 26 26 3 rfl Try.underlying26 HZ.out v (List.replicate l0_2.length 0) p Ap p.length cp (fun _ => True) (by first | rfl | (go_simp; done) | (go_simp; rfl)) (by first | rfl | (go_simp; done) | (go_simp; rfl)) HO6.out (Kd.R_reads' HP6.out).2.2 HB6.out HB6.out.size ?_; intro w7 ho hb hg; have BK7 := Aside0.mk (blk_grown BK6.out hg (NE.out _ GC.out)); rw [copy_all (by rw [List.length_replicate]; exact HL.out.1)] at ho; have HQ7 := Aside0.mk (Kd.R_grown HQ6.out hg NE.out); have HB7 := Aside0.mk hb; have y7 : w7.cell? ⟨gc, 3, none⟩ = some (.int .i64 2) := (blk_cell BK7.out 3).trans rfl; have HO7 := Aside0.mk ho; clear ho hb hg)
        | ((with_reducible refine gate_builtin (b := .copy) (xs := #[.tmp 41, .tmp 42]) rfl ?_); refine Kd.R_copy (0 : Int) (w0 := w) w.heap.size rfl (.tmp 41) (.tmp 42) 26 26 3 rfl Try.underlying26 HZ.out v (p) q Aq q.length cq (fun _ => True) (by first | rfl | (go_simp; done) | (go_simp; rfl)) (by first | rfl | (go_simp; done) | (go_simp; rfl)) HO7.out (Kd.R_reads' HQ7.out).2.2 HB7.out HB7.out.size ?_; intro w8 ho hb hg; have BK8 := Aside0.mk (blk_grown BK7.out hg (NE.out _ GC.out)); rw [copy_all (by rw [HL.out.1]; exact HL.out.2.1)] at ho; have HQ8 := Aside0.mk (Kd.R_grown HQ7.out hg NE.out); have HB8 := Aside0.mk hb; have y8 : w8.cell? ⟨gc, 3, none⟩ = some (.int .i64 2) := (blk_cell BK8.out 3).trans rfl; obtain ⟨Ao, co, rfl⟩ := Kd.R_slice ho; have HO8 := Aside0.mk ho; clear ho hb hg)
        | (go_at_call 31; (refine (apportion_Share.calls k a2 _ _ q s e0 _ (Kd.R_reads' HO8.out).2.2 (Kd.R_reads' HO8.out).2.1 HS.out).mono ?_); rintro e w9 ⟨v0, rfl, hr, hb⟩; have HRR := Aside0.mk (Kd.R_lower hr HB8.out.size); have HBB := Aside0.mk (below_step HB8.out hb); clear hr hb))
      go_ret
      exact ⟨_, rfl, HRR.out, HBB.out⟩
    · rw [if_neg c2] at hs
      (try dsimp only at hs)
      have d2 : decide (a1_3 = 2) = false := decide_eq_false c2
      have d2b : (a1_3 == 2) = false := by simpa using c2
      have HS := Aside0.mk hs
      clear hs c3 c2
      go_enter Try.func33, Try.ntmps33
      go_wp2_with (first
        | ((with_reducible refine gate_dst (N := 3) rfl ?_); refine box_event ?hg (N := 3) ?hd (cs := #[.string a0_0, .int .i64 a0_1, .slice A0_2 l0_2.length c0_2, .slice A0_3 l0_3.length c0_3]) (t := 25) ?hr ?_; (case hd => rfl); (case hg => rfl); (case hr => first | (go_simp; done) | (go_simp; rfl)); intro gb hg w3 hbox hb; have BK3 := Aside0.mk hbox; have HB3 := Aside0.mk (below_step HB.out hb); clear hbox hb hg)
        | ((with_reducible refine gate_dst (N := 4) rfl ?_); refine box_event ?hg (N := 4) ?hd (cs := #[.int .i64 a1_0, .int .i64 a1_1, .string a1_2, .int .i64 a1_3, .int .i64 a1_4]) (t := 33) ?hr ?_; (case hd => rfl); (case hg => rfl); (case hr => first | (go_simp; done) | (go_simp; rfl)); intro gc hg w4 hbox hb; have BK4 := Aside0.mk hbox; have BG4 := Aside0.mk (blk_below BK3.out hb); have HB4 := Aside0.mk (below_step HB3.out hb); have z0 : w4.cell? ⟨gb, 0, none⟩ = some (.string a0_0) := (blk_cell BG4.out 0).trans rfl; have z1 : w4.cell? ⟨gb, 1, none⟩ = some (.int .i64 a0_1) := (blk_cell BG4.out 1).trans rfl; have z2 : w4.cell? ⟨gb, 2, none⟩ = some (.slice A0_2 l0_2.length c0_2) := (blk_cell BG4.out 2).trans rfl; have z3 : w4.cell? ⟨gb, 3, none⟩ = some (.slice A0_3 l0_3.length c0_3) := (blk_cell BG4.out 3).trans rfl; clear hbox hb hg)
        | (go_at_call 29; (with_reducible refine (valuation_weights.calls _ _ _ _ _ _ _ _ p q _ (Kd.C_below HR2.out HB4.out) HC2.out (Kd.C_below HR3.out HB4.out) HC3.out HW.out).mono ?_); rintro e w5 ⟨vp, vw, rfl, hp, hq, hb⟩; obtain ⟨Ap, cp, rfl⟩ := Kd.R_slice hp; obtain ⟨Aq, cq, rfl⟩ := Kd.R_slice hq; have HP5 := Aside0.mk hp; have HQ5 := Aside0.mk hq; have BK5 := Aside0.mk (blk_below BK4.out hb); have BG5 := Aside0.mk (blk_below BG4.out hb); have HB5 := Aside0.mk (below_step HB4.out hb); have t2 : w5.cell? ⟨gb, 2, none⟩ = some (.slice A0_2 l0_2.length c0_2) := (blk_cell BG5.out 2).trans rfl; have y3 : w5.cell? ⟨gc, 3, none⟩ = some (.int .i64 a1_3) := (blk_cell BK5.out 3).trans rfl; clear hp hq hb)
        | ((with_reducible refine gate_dst (N := 34) rfl ?_); refine Kd.R_make (Kd.int .i64) w.heap.size 3 rfl (N := 34) rfl 26 _ _ rfl (l0_2.length : Int) rfl rfl Try.underlying26 (.int .i64 0) 8 info3 rfl (by decide) (by omega) 0 (ok := fun _ => True) (okp := fun _ => True) rfl (fun _ hk => hk) trivial (by omega) (by have := HL.out.2.2; omega) HB5.out HB5.out.size ?_; intro v w6 ho hb hg hnew; have BK6 := Aside0.mk (blk_grown BK5.out hg (by simp)); rw [Int.toNat_natCast] at ho; have HP6 := Aside0.mk (R_old_lt HP5.out hg); have HQ6 := Aside0.mk (R_old_lt HQ5.out hg); have NE := Aside0.mk (new_ne hnew); have GC := Aside0.mk (blk_lt BK5.out); have HO6 := Aside0.mk ho; have HB6 := Aside0.mk hb; clear ho hb hg hnew)
        | ((with_reducible refine gate_builtin (b := .copy) (xs := #[.tmp 35, .tmp 36]) rfl ?_); refine Kd.R_copy (0 : Int) (w0 := w) w.heap.size rfl (.tmp 35) (.tmp 36) 26 26 3 rfl Try.underlying26 HZ.out v (List.replicate l0_2.length 0) p Ap p.length cp (fun _ => True) (by first | rfl | (go_simp; done) | (go_simp; rfl)) (by first | rfl | (go_simp; done) | (go_simp; rfl)) HO6.out (Kd.R_reads' HP6.out).2.2 HB6.out HB6.out.size ?_; intro w7 ho hb hg; have BK7 := Aside0.mk (blk_grown BK6.out hg (NE.out _ GC.out)); rw [copy_all (by rw [List.length_replicate]; exact HL.out.1)] at ho; have HQ7 := Aside0.mk (Kd.R_grown HQ6.out hg NE.out); have HB7 := Aside0.mk hb; have y7 : w7.cell? ⟨gc, 3, none⟩ = some (.int .i64 a1_3) := (blk_cell BK7.out 3).trans rfl; obtain ⟨Ao, co, rfl⟩ := Kd.R_slice ho; have HO7 := Aside0.mk ho; clear ho hb hg)
        | (go_at_call 31; (refine (apportion_Share.calls k a2 _ _ p s e0 _ (Kd.R_reads' HO7.out).2.2 (Kd.R_reads' HO7.out).2.1 HS.out).mono ?_); rintro e w9 ⟨v0, rfl, hr, hb⟩; have HRR := Aside0.mk (Kd.R_lower hr HB7.out.size); have HBB := Aside0.mk (below_step HB7.out hb); clear hr hb))
      go_ret
      exact ⟨_, rfl, HRR.out, HBB.out⟩

end Go.Proofs.Yteoieencagcgdaa.PX
end
section
namespace Go.Proofs.Yteoieencagcgdaa.PX
open Go.RowKit Go.Proofs.YteoieencagcgdaaW.PrintWords Go.Proofs.YteoieencagcgdaaW.PrintLast Go.Proofs.YteoieencagcgdaaW.PrintMore
attribute [local go_sem] max2_int min2_int max_two min_two max_three min_three max_four min_four
set_option linter.unusedVariables false
set_option linter.unusedSimpArgs false

def valuation_sign.f (a0 : Int) : Option (Int) := if a0 ≤ 5 then (some 1) else (if a0 ≤ 8 then (some (-1)) else (some 0))
set_option maxHeartbeats 8000000 in
set_option maxRecDepth 100000 in
theorem valuation_sign.calls (a0 : Int) (r : Int) (w : World) (h : valuation_sign.f a0 = some r) :
   Calls Try.prog 32 #[.int .i64 a0] w fun e w' => e = .returned (.int .i64 r) ∧ Drawn0 w w' := by
  have H : (if a0 ≤ 5 then (some 1) else (if a0 ≤ 8 then (some (-1)) else (some 0))) = some r := h
  clear h
  by_cases c2 : a0 ≤ 5
  ·rw [if_pos c2] at H
   have c2b0 : decide (a0 ≤ 5) = true := decide_eq_true c2
   clear c2
   obtain rfl := Option.some.inj H
   simp only [Option.some.injEq, Prod.mk.injEq] at H
   obtain ⟨rfl⟩ := H
   go_enter Try.func32, Try.ntmps32
   go_wp2
   go_ret
   exact ⟨by first | rfl | (simp; done) | (simp [*]; done), by repeat (first | exact Drawn0.refl _ | apply Drawn0.step)⟩
  ·rw [if_neg c2] at H
   have c2b0 : decide (a0 ≤ 5) = false := decide_eq_false c2
   clear c2
   by_cases c3 : a0 ≤ 8
   ·rw [if_pos c3] at H
    have c3b0 : decide (a0 ≤ 8) = true := decide_eq_true c3
    clear c3
    obtain rfl := Option.some.inj H
    simp only [Option.some.injEq, Prod.mk.injEq] at H
    obtain ⟨rfl⟩ := H
    go_enter Try.func32, Try.ntmps32
    go_wp2
    go_ret
    exact ⟨by first | rfl | (simp; done) | (simp [*]; done), by repeat (first | exact Drawn0.refl _ | apply Drawn0.step)⟩
   ·rw [if_neg c3] at H
    have c3b0 : decide (a0 ≤ 8) = false := decide_eq_false c3
    clear c3
    obtain rfl := Option.some.inj H
    simp only [Option.some.injEq, Prod.mk.injEq] at H
    obtain ⟨rfl⟩ := H
    go_enter Try.func32, Try.ntmps32
    go_wp2
    go_ret
    exact ⟨by first | rfl | (simp; done) | (simp [*]; done), by repeat (first | exact Drawn0.refl _ | apply Drawn0.step)⟩

end Go.Proofs.Yteoieencagcgdaa.PX
end
section
namespace Go.Proofs.Yteoieencagcgdaa.PX
open Go.RowKit Go.Proofs.YteoieencagcgdaaW.PrintWords Go.Proofs.YteoieencagcgdaaW.PrintLast Go.Proofs.YteoieencagcgdaaW.PrintMore
attribute [local go_sem] max2_int min2_int max_two min_two max_three min_three max_four min_four
set_option linter.unusedVariables false
set_option linter.unusedSimpArgs false

mutual
def valuation_Values.l0 : Nat → List (S61) → List Int → List (S33) → Int → Int → ByteArray → Int → List (S35) → List (S33) → Option (List Int × Int)
  | 0, _, _, _, _, _, _, _, _, _ => none
  | k + 1, x0, x12, x58, x59, x60, x236000, x236001, x236002, x236003 => if x60 < x59 then (if 0 ≤ x60 then (if x60 < (x58.length : Int) then ((valuation_sign.f ((rd_T33 x58 x60).f0)).bind fun t257 => (if t257 = 0 then (valuation_Values.l0 k x0 x12 x58 x59 (wrap64 (x60 + 1)) x236000 x236001 x236002 x236003) else ((currency_Convert.f k x0 ((rd_T33 x58 x60).f1) ((rd_T33 x58 x60).f2) x236001 2).bind fun bt258 => (if bt258.2 = 0 then ((valuation_divide.f k x236000 x236001 x236002 x236003 ((rd_T33 x58 x60).f0) ((rd_T33 x58 x60).f1) ((rd_T33 x58 x60).f2) ((rd_T33 x58 x60).f3) ((rd_T33 x58 x60).f4) bt258.1).bind fun t260 => (valuation_Values.l1 k x0 x12 x58 x59 x60 t260 (t260.length : Int) 0 x236000 x236001 x236002 x236003 ((rd_T33 x58 x60).f0) ((rd_T33 x58 x60).f1) ((rd_T33 x58 x60).f2) ((rd_T33 x58 x60).f3) ((rd_T33 x58 x60).f4))) else (some (([] : List Int), bt258.2)))))) else (none)) else (none)) else ((valuation_checked.f k x12).bind fun bt251 => (some (bt251.1, bt251.2)))
def valuation_Values.l1 : Nat → List (S61) → List Int → List (S33) → Int → Int → List Int → Int → Int → ByteArray → Int → List (S35) → List (S33) → Int → Int → ByteArray → Int → Int → Option (List Int × Int)
  | 0, _, _, _, _, _, _, _, _, _, _, _, _, _, _, _, _, _ => none
  | k + 1, x0, x12, x58, x59, x60, x85, x86, x87, x236000, x236001, x236002, x236003, x257000, x257001, x257002, x257003, x257004 => if x87 < x86 then (if 0 ≤ x87 then (if x87 < (x85.length : Int) then (if x87 < (x12.length : Int) then ((valuation_sign.f x257000).bind fun t265 => (valuation_Values.l1 k x0 (x12.set (x87 : Int).toNat (wrap64 ((rd x12 x87) + (wrap64 (t265 * (rd x85 x87)))))) x58 x59 x60 x85 x86 (wrap64 (x87 + 1)) x236000 x236001 x236002 x236003 x257000 x257001 x257002 x257003 x257004)) else (none)) else (none)) else (none)) else (valuation_Values.l0 k x0 x12 x58 x59 (wrap64 (x60 + 1)) x236000 x236001 x236002 x236003)
end
def valuation_Values.f (k : Nat) (l0 : List (S61)) (a1_0 : ByteArray) (a1_1 : Int) (l1_2 : List (S35)) (l1_3 : List (S33)) : Option (List Int × Int) := (valuation_Validate.f k a1_0 a1_1 l1_2 l1_3).bind fun t236 => (if t236 = 0 then ((valuation_weights.f a1_0 a1_1 l1_2 l1_3).bind fun bt237 => ((money_Sum.f k bt237.1).bind fun bt243 => (if bt243.2 = 0 then ((currency_Convert.f k l0 bt243.1 a1_0 a1_1 2).bind fun bt245 => (if bt245.2 = 0 then ((apportion_Share.f k bt245.1 bt237.1).bind fun bt247 => (valuation_Values.l0 k l0 bt247.1 l1_3 (l1_3.length : Int) 0 a1_0 a1_1 l1_2 l1_3)) else (some (([] : List Int), bt245.2)))) else (some (([] : List Int), bt243.2))))) else (some (([] : List Int), t236)))
def valuation_Values.T22 : Bool × List (List Nat × List Nat) := (true, [([], []), ([], []), ([0, 1], [0, 1]), ([2], [2]), ([], []), ([4], [4]), ([5], [5]), ([], []), ([6, 7], [6, 7]), ([3, 8], [3, 8]), ([0, 1, 0, 1, 2, 3, 4, 5, 6, 7, 8, 9], [0, 1]), ([10, 9, 6, 0, 1, 2, 3, 4, 5, 6, 7, 8, 9], [9, 10])])
def valuation_Values.B22 : List Nat := [0, 0, 3, 7, 0, 16, 48, 0, 240, 511, 1023, 2047]
theorem valuation_Values.tab22 : rtab .any (opsOf Try.f16 22) = valuation_Values.T22 := by kernel_rfl
theorem valuation_Values.bits22 : waitsOk valuation_Values.T22.2 valuation_Values.B22 = true := by kernel_rfl
set_option maxHeartbeats 8000000 in
set_option maxRecDepth 100000 in
theorem valuation_Values.calls (k : Nat) (A0 : Option Addr) (c0 : Nat) (l0 : List (S61)) (a1_0 : ByteArray) (a1_1 : Int) (A1_2 : Option Addr) (c1_2 : Nat) (l1_2 : List (S35)) (A1_3 : Option Addr) (c1_3 : Nat) (l1_3 : List (S33)) (r1 : List Int) (r2 : Int) (w : World) (hr0 : Kd.C k61 w A0 l0.length l0) (hc0 : l0.length ≤ c0) (hr1_2 : Kd.C k35 w A1_2 l1_2.length l1_2) (hc1_2 : l1_2.length ≤ c1_2) (hr1_3 : Kd.C k33 w A1_3 l1_3.length l1_3) (hc1_3 : l1_3.length ≤ c1_3) (h : valuation_Values.f k l0 a1_0 a1_1 l1_2 l1_3 = some (r1, r2)) :
   Calls Try.prog 16 #[.slice A0 l0.length c0, .agg #[.string a1_0, .int .i64 a1_1, .slice A1_2 l1_2.length c1_2, .slice A1_3 l1_3.length c1_3]] w fun e w' => ∃ v0_ : Value, e = .returned (.tuple #[v0_, .int .i64 r2]) ∧ Kd.R (Kd.int .i64) 3 w' w.heap.size (fun _ => True) v0_ r1 ∧ Below w.heap.size w w' := by
  have hu25 := Try.underlying25
  have hu33 := Try.underlying33
  have HR0 := Aside0.mk hr0
  have HC0 := Aside0.mk hc0
  clear hr0 hc0
  have HR1_2 := Aside0.mk hr1_2
  have HC1_2 := Aside0.mk hc1_2
  clear hr1_2 hc1_2
  have HR1_3 := Aside0.mk hr1_3
  have HC1_3 := Aside0.mk hc1_3
  clear hr1_3 hc1_3
  have HB := Aside0.mk (Below.refl w.heap.size w)
  have H : ((valuation_Validate.f k a1_0 a1_1 l1_2 l1_3).bind fun t236 => (if t236 = 0 then ((valuation_weights.f a1_0 a1_1 l1_2 l1_3).bind fun bt237 => ((money_Sum.f k bt237.1).bind fun bt243 => (if bt243.2 = 0 then ((currency_Convert.f k l0 bt243.1 a1_0 a1_1 2).bind fun bt245 => (if bt245.2 = 0 then ((apportion_Share.f k bt245.1 bt237.1).bind fun bt247 => (valuation_Values.l0 k l0 bt247.1 l1_3 (l1_3.length : Int) 0 a1_0 a1_1 l1_2 l1_3)) else (some (([] : List Int), bt245.2)))) else (some (([] : List Int), bt243.2))))) else (some (([] : List Int), t236)))) = some (r1, r2) := h
  clear h
  replace H := Option.bind_eq_some_iff.mp H
  obtain ⟨t236, A30, H⟩ := H
  replace H : (if t236 = 0 then ((valuation_weights.f a1_0 a1_1 l1_2 l1_3).bind fun bt237 => ((money_Sum.f k bt237.1).bind fun bt243 => (if bt243.2 = 0 then ((currency_Convert.f k l0 bt243.1 a1_0 a1_1 2).bind fun bt245 => (if bt245.2 = 0 then ((apportion_Share.f k bt245.1 bt237.1).bind fun bt247 => (valuation_Values.l0 k l0 bt247.1 l1_3 (l1_3.length : Int) 0 a1_0 a1_1 l1_2 l1_3)) else (some (([] : List Int), bt245.2)))) else (some (([] : List Int), bt243.2))))) else (some (([] : List Int), t236))) = some (r1, r2) := H
  have A3 := Aside0.mk A30
  clear A30
  by_cases c4 : t236 = 0
  ·rw [if_pos c4] at H
   have c4b0 : (t236 == 0) = true := beq_iff_eq.mpr c4
   have c4b1 : (t236 != 0) = false := bne_eq_false_iff_eq.mpr c4
   clear c4
   replace H := Option.bind_eq_some_iff.mp H
   obtain ⟨⟨t237, t240⟩, A50, H⟩ := H
   replace H : ((money_Sum.f k t237).bind fun bt243 => (if bt243.2 = 0 then ((currency_Convert.f k l0 bt243.1 a1_0 a1_1 2).bind fun bt245 => (if bt245.2 = 0 then ((apportion_Share.f k bt245.1 t237).bind fun bt247 => (valuation_Values.l0 k l0 bt247.1 l1_3 (l1_3.length : Int) 0 a1_0 a1_1 l1_2 l1_3)) else (some (([] : List Int), bt245.2)))) else (some (([] : List Int), bt243.2)))) = some (r1, r2) := H
   have A5 := Aside0.mk A50
   clear A50
   replace H := Option.bind_eq_some_iff.mp H
   obtain ⟨⟨t243, t244⟩, A60, H⟩ := H
   replace H : (if t244 = 0 then ((currency_Convert.f k l0 t243 a1_0 a1_1 2).bind fun bt245 => (if bt245.2 = 0 then ((apportion_Share.f k bt245.1 t237).bind fun bt247 => (valuation_Values.l0 k l0 bt247.1 l1_3 (l1_3.length : Int) 0 a1_0 a1_1 l1_2 l1_3)) else (some (([] : List Int), bt245.2)))) else (some (([] : List Int), t244))) = some (r1, r2) := H
   have A6 := Aside0.mk A60
   clear A60
   by_cases c7 : t244 = 0
   ·rw [if_pos c7] at H
    have c7b0 : (t244 == 0) = true := beq_iff_eq.mpr c7
    have c7b1 : (t244 != 0) = false := bne_eq_false_iff_eq.mpr c7
    clear c7
    replace H := Option.bind_eq_some_iff.mp H
    obtain ⟨⟨t245, t246⟩, A80, H⟩ := H
    replace H : (if t246 = 0 then ((apportion_Share.f k t245 t237).bind fun bt247 => (valuation_Values.l0 k l0 bt247.1 l1_3 (l1_3.length : Int) 0 a1_0 a1_1 l1_2 l1_3)) else (some (([] : List Int), t246))) = some (r1, r2) := H
    have A8 := Aside0.mk A80
    clear A80
    by_cases c9 : t246 = 0
    ·rw [if_pos c9] at H
     have c9b0 : (t246 == 0) = true := beq_iff_eq.mpr c9
     have c9b1 : (t246 != 0) = false := bne_eq_false_iff_eq.mpr c9
     clear c9
     replace H := Option.bind_eq_some_iff.mp H
     obtain ⟨⟨t247, t248⟩, A100, H⟩ := H
     replace H : (valuation_Values.l0 k l0 t247 l1_3 (l1_3.length : Int) 0 a1_0 a1_1 l1_2 l1_3) = some (r1, r2) := H
     have A10 := Aside0.mk A100
     clear A100
     have H' := Aside0.mk H
     clear H
     go_enter Try.func16, Try.ntmps16
     go_wp2_with (first | ((with_reducible refine gate_dst (N := 3) rfl ?_); refine boxA (N := 3) (cs := #[.string a1_0, .int .i64 a1_1, .slice A1_2 l1_2.length c1_2, .slice A1_3 l1_3.length c1_3]) (t := 25) ?_; intro gb235 hg w11 hbox hb; have n0_ := hB HB hb; have n1_ := Aside0.mk (hbox); have n2_ := gW hg HB; have n3_ := gW hg HB; clear HB; have HB := n0_; have BK235 := n1_; have GW235 := n2_; have GE235 := n3_; clear n0_ n1_ n2_ n3_; clear hb hbox hg; have hcz12_0 : w11.cell? ⟨gb235, 0, none⟩ = some (.string a1_0) := lc BK235 0; have hcz12_1 : w11.cell? ⟨gb235, 1, none⟩ = some (.int .i64 a1_1) := lc BK235 1; have hcz12_2 : w11.cell? ⟨gb235, 2, none⟩ = some (.slice A1_2 l1_2.length c1_2) := lc BK235 2; have hcz12_3 : w11.cell? ⟨gb235, 3, none⟩ = some (.slice A1_3 l1_3.length c1_3) := lc BK235 3; have hfz12_0 := fz BK235 0; have hfz12_1 := fz BK235 1; have hfz12_2 := fz BK235 2; have hfz12_3 := fz BK235 3) | ((with_reducible refine gate_callee (f := 11) rfl ?_); refine goA (some 21) Try.func11 #[.agg #[.string a1_0, .int .i64 a1_1, .slice A1_2 l1_2.length c1_2, .slice A1_3 l1_3.length c1_3]] ?_; (with_reducible refine (valuation_Validate.calls k a1_0 a1_1 _ _ l1_2 _ _ l1_3 t236 _ ?side1 ?side2 ?side3 ?side4 A3.out).mono ?_); (case side1 => repeat (first | exact (Kd.C_below HR1_2.out HB.out) | (with_reducible refine Kd.C_alloc ?_ _) | (with_reducible refine Kd.C_drewN ?_ _) | (with_reducible refine Kd.C_drew ?_))); (case side2 => exact HC1_2.out); (case side3 => repeat (first | exact (Kd.C_below HR1_3.out HB.out) | (with_reducible refine Kd.C_alloc ?_ _) | (with_reducible refine Kd.C_drewN ?_ _) | (with_reducible refine Kd.C_drew ?_))); (case side4 => exact HC1_3.out); rintro e w13 ⟨rfl, hb⟩; refine ⟨_, rfl, ?_⟩; have n0_ := bB BK235 hb; have n1_ := hB HB hb; clear BK235; clear HB; have BK235 := n0_; have HB := n1_; clear n0_ n1_; have hcz14_0 : w13.cell? ⟨gb235, 0, none⟩ = some (.string a1_0) := lc BK235 0; have hcz14_1 : w13.cell? ⟨gb235, 1, none⟩ = some (.int .i64 a1_1) := lc BK235 1; have hcz14_2 : w13.cell? ⟨gb235, 2, none⟩ = some (.slice A1_2 l1_2.length c1_2) := lc BK235 2; have hcz14_3 : w13.cell? ⟨gb235, 3, none⟩ = some (.slice A1_3 l1_3.length c1_3) := lc BK235 3; have hfz14_0 := fz BK235 0; have hfz14_1 := fz BK235 1; have hfz14_2 := fz BK235 2; have hfz14_3 := fz BK235 3; clear hb) | ((with_reducible refine gate_callee (f := 29) rfl ?_); refine goA (some 27) Try.func29 #[.agg #[.string a1_0, .int .i64 a1_1, .slice A1_2 l1_2.length c1_2, .slice A1_3 l1_3.length c1_3]] ?_; (with_reducible refine (valuation_weights.calls a1_0 a1_1 _ _ l1_2 _ _ l1_3 t237 t240 _ ?side1 ?side2 ?side3 ?side4 A5.out).mono ?_); (case side1 => repeat (first | exact (Kd.C_below HR1_2.out HB.out) | (with_reducible refine Kd.C_alloc ?_ _) | (with_reducible refine Kd.C_drewN ?_ _) | (with_reducible refine Kd.C_drew ?_))); (case side2 => exact HC1_2.out); (case side3 => repeat (first | exact (Kd.C_below HR1_3.out HB.out) | (with_reducible refine Kd.C_alloc ?_ _) | (with_reducible refine Kd.C_drewN ?_ _) | (with_reducible refine Kd.C_drew ?_))); (case side4 => exact HC1_3.out); rintro e w15 ⟨v238, v241, rfl, ho0, ho1, hb⟩; refine ⟨_, rfl, ?_⟩; have n0_ := rL ho0 HB; have n1_ := rL ho1 HB; have n2_ := bB BK235 hb; have n3_ := hB HB hb; clear BK235; clear HB; have HO239 := n0_; have HO242 := n1_; have BK235 := n2_; have HB := n3_; clear n0_ n1_ n2_ n3_; obtain ⟨Ao16, co16, eo16⟩ := Kd.R_slice HO239.out; subst eo16; clear hb ho0 ho1) | ((with_reducible refine gate_callee (f := 30) rfl ?_); refine goA (some 32) Try.func30 #[.slice Ao16 t237.length co16] ?_; (with_reducible refine (money_Sum.calls k _ _ t237 t243 t244 _ ?side1 ?side2 A6.out).mono ?_); (case side1 => repeat (first | exact (Kd.R_reads' HO239.out).2.2 | (with_reducible refine Kd.C_alloc ?_ _) | (with_reducible refine Kd.C_drewN ?_ _) | (with_reducible refine Kd.C_drew ?_))); (case side2 => exact (Kd.R_reads' HO239.out).2.1); rintro e w17 ⟨rfl, hb⟩; refine ⟨_, rfl, ?_⟩; have n0_ := rB HO239 hb; have n1_ := rB HO242 hb; have n2_ := bB BK235 hb; have n3_ := hB HB hb; clear HO239; clear HO242; clear BK235; clear HB; have HO239 := n0_; have HO242 := n1_; have BK235 := n2_; have HB := n3_; clear n0_ n1_ n2_ n3_; have hcz18_0 : w17.cell? ⟨gb235, 0, none⟩ = some (.string a1_0) := lc BK235 0; have hcz18_1 : w17.cell? ⟨gb235, 1, none⟩ = some (.int .i64 a1_1) := lc BK235 1; have hcz18_2 : w17.cell? ⟨gb235, 2, none⟩ = some (.slice A1_2 l1_2.length c1_2) := lc BK235 2; have hcz18_3 : w17.cell? ⟨gb235, 3, none⟩ = some (.slice A1_3 l1_3.length c1_3) := lc BK235 3; have hfz18_0 := fz BK235 0; have hfz18_1 := fz BK235 1; have hfz18_2 := fz BK235 2; have hfz18_3 := fz BK235 3; clear hb) | ((with_reducible refine gate_callee (f := 21) rfl ?_); refine goA (some 45) Try.func21 #[.slice A0 l0.length c0, .int .i64 t243, .string a1_0, .int .i64 a1_1, .int .i64 2] ?_; (with_reducible refine (currency_Convert.calls k _ _ l0 t243 a1_0 a1_1 2 t245 t246 _ ?side1 ?side2 A8.out).mono ?_); (case side1 => repeat (first | exact (Kd.C_below HR0.out HB.out) | (with_reducible refine Kd.C_alloc ?_ _) | (with_reducible refine Kd.C_drewN ?_ _) | (with_reducible refine Kd.C_drew ?_))); (case side2 => exact HC0.out); rintro e w19 ⟨rfl, hb⟩; refine ⟨_, rfl, ?_⟩; have n0_ := rB HO239 hb; have n1_ := rB HO242 hb; have n2_ := bB BK235 hb; have n3_ := hB HB hb; clear HO239; clear HO242; clear BK235; clear HB; have HO239 := n0_; have HO242 := n1_; have BK235 := n2_; have HB := n3_; clear n0_ n1_ n2_ n3_; clear hb) | ((with_reducible refine gate_callee (f := 31) rfl ?_); refine goA (some 54) Try.func31 #[.int .i64 t245, .slice Ao16 t237.length co16] ?_; (with_reducible refine (apportion_Share.calls k t245 _ _ t237 t247 t248 _ ?side1 ?side2 A10.out).mono ?_); (case side1 => repeat (first | exact (Kd.R_reads' HO239.out).2.2 | (with_reducible refine Kd.C_alloc ?_ _) | (with_reducible refine Kd.C_drewN ?_ _) | (with_reducible refine Kd.C_drew ?_))); (case side2 => exact (Kd.R_reads' HO239.out).2.1); rintro e w20 ⟨v249, rfl, ho0, hb⟩; refine ⟨_, rfl, ?_⟩; have n0_ := Aside0.mk (Kd.R_elder' (aR HO239) (Kd.R_base ho0) hb); have n1_ := Aside0.mk (Kd.R_elder' (aR HO242) (Kd.R_base ho0) hb); have n2_ := Aside0.mk (Kd.R_lower (Kd.R_new' (Kd.R_new' ho0 (Kd.R_lt (aR HO239))) (Kd.R_lt (aR HO242))) (below_size (aH HB))); have n3_ := bB BK235 hb; have n4_ := hB HB hb; clear HO239; clear HO242; clear BK235; clear HB; have HO239 := n0_; have HO242 := n1_; have HO250 := n2_; have BK235 := n3_; have HB := n4_; clear n0_ n1_ n2_ n3_ n4_; have hcz21_0 : w20.cell? ⟨gb235, 0, none⟩ = some (.string a1_0) := lc BK235 0; have hcz21_1 : w20.cell? ⟨gb235, 1, none⟩ = some (.int .i64 a1_1) := lc BK235 1; have hcz21_2 : w20.cell? ⟨gb235, 2, none⟩ = some (.slice A1_2 l1_2.length c1_2) := lc BK235 2; have hcz21_3 : w20.cell? ⟨gb235, 3, none⟩ = some (.slice A1_3 l1_3.length c1_3) := lc BK235 3; have hfz21_0 := fz BK235 0; have hfz21_1 := fz BK235 1; have hfz21_2 := fz BK235 2; have hfz21_3 := fz BK235 3; clear hb ho0))
     go_loopg [60] k (fun kq v60 w' => ∃ (x12_1 : List Int) (x60_1 : Int), v60 = .int .i64 x60_1 ∧ Aside0 (valuation_Values.l0 kq l0 x12_1 l1_3 (l1_3.length : Int) x60_1 a1_0 a1_1 l1_2 l1_3 = some (r1, r2)) ∧ Aside0 (kq ≤ k) ∧ Aside0 (Kd.R (Kd.int .i64) 3 w' w.heap.size (fun _ => True) v249 x12_1) ∧ Aside0 (w'.heap[gb235]? = some (.cells #[.string a1_0, .int .i64 a1_1, (.slice A1_2 l1_2.length c1_2), (.slice A1_3 l1_3.length c1_3)] 25 (0, 0))) ∧ Aside0 (Below w.heap.size w w'))
     case atStart => exact ⟨(t247), (0), (by first | rfl | (simp; done) | (simp [*]; done)), H', ⟨Nat.le_refl _⟩, ⟨by (with_reducible repeat (first | apply Kd.R_alloc | apply Kd.R_drewN | apply Kd.R_drew)); exact Kd.R_mono HO250.out (fun _ hk => trivial)⟩, ⟨aB BK235⟩, ⟨aH HB⟩⟩
     case round =>
      clear H'
      try clear c1
      try clear c2
      try clear p2
      try clear c3
      try clear c4
      try clear c4b0
      try clear c4b1
      try clear c7
      try clear c7b0
      try clear c7b1
      try clear c9
      try clear c9b0
      try clear c9b1
      try clear c11
      try clear c16
      try clear c21
      try clear hcz12_0
      try clear hcz12_1
      try clear hcz12_2
      try clear hcz12_3
      try clear hcz14_0
      try clear hcz14_1
      try clear hcz14_2
      try clear hcz14_3
      try clear hcz18_0
      try clear hcz18_1
      try clear hcz18_2
      try clear hcz18_3
      try clear hcz21_0
      try clear hcz21_1
      try clear hcz21_2
      try clear hcz21_3
      try clear hfz12_0
      try clear hfz12_1
      try clear hfz12_2
      try clear hfz12_3
      try clear hfz14_0
      try clear hfz14_1
      try clear hfz14_2
      try clear hfz14_3
      try clear hfz18_0
      try clear hfz18_1
      try clear hfz18_2
      try clear hfz18_3
      try clear hfz21_0
      try clear hfz21_1
      try clear hfz21_2
      try clear hfz21_3
      obtain ⟨x12_1, x60_1, rfl, HA, HK1, HO_12, BK235, HB⟩ := hrel
      cases gk with
      | zero => exact absurd HA.out (by simp [valuation_Values.l0])
      | succ k1 =>
       have H := HA.out
       clear HA
       simp only [valuation_Values.l0] at H
       by_cases c22 : x60_1 < (l1_3.length : Int)
       ·rw [if_pos c22] at H
        have c22b0 : decide (x60_1 < (l1_3.length : Int)) = true := decide_eq_true c22
        clear c22
        by_cases c23 : 0 ≤ x60_1
        ·rw [if_pos c23] at H
         have c23b0 : decide (0 ≤ x60_1) = true := decide_eq_true c23
         clear c23
         by_cases c24 : x60_1 < (l1_3.length : Int)
         ·rw [if_pos c24] at H
          have c24b0 : decide (x60_1 < (l1_3.length : Int)) = true := decide_eq_true c24
          clear c24
          replace H := Option.bind_eq_some_iff.mp H
          obtain ⟨t257, A250, H⟩ := H
          replace H : (if t257 = 0 then (valuation_Values.l0 k1 l0 x12_1 l1_3 (l1_3.length : Int) (wrap64 (x60_1 + 1)) a1_0 a1_1 l1_2 l1_3) else ((currency_Convert.f k1 l0 ((rd_T33 l1_3 x60_1).f1) ((rd_T33 l1_3 x60_1).f2) a1_1 2).bind fun bt258 => (if bt258.2 = 0 then ((valuation_divide.f k1 a1_0 a1_1 l1_2 l1_3 ((rd_T33 l1_3 x60_1).f0) ((rd_T33 l1_3 x60_1).f1) ((rd_T33 l1_3 x60_1).f2) ((rd_T33 l1_3 x60_1).f3) ((rd_T33 l1_3 x60_1).f4) bt258.1).bind fun t260 => (valuation_Values.l1 k1 l0 x12_1 l1_3 (l1_3.length : Int) x60_1 t260 (t260.length : Int) 0 a1_0 a1_1 l1_2 l1_3 ((rd_T33 l1_3 x60_1).f0) ((rd_T33 l1_3 x60_1).f1) ((rd_T33 l1_3 x60_1).f2) ((rd_T33 l1_3 x60_1).f3) ((rd_T33 l1_3 x60_1).f4))) else (some (([] : List Int), bt258.2))))) = some (r1, r2) := H
          have A25 := Aside0.mk A250
          clear A250
          by_cases c26 : t257 = 0
          ·rw [if_pos c26] at H
           have c26b0 : (t257 == 0) = true := beq_iff_eq.mpr c26
           have c26b1 : (t257 != 0) = false := bne_eq_false_iff_eq.mpr c26
           clear c26
           have H' := Aside0.mk H
           clear H
           have p255 : 0 ≤ (x60_1 : Int) := of_decide_eq_true (by first | (with_reducible assumption) | assumption)
           have q255 : x60_1 < (l1_3.length : Int) := of_decide_eq_true (by first | (with_reducible assumption) | assumption)
           obtain ⟨ad255, e255, hx255_0, hx255_1, hx255_2, hx255_3, hx255_4⟩ := at_T33 HR1_3.out x60_1 p255 q255
           cases e255
           replace hx255_0 := (HB.out.cell (World.block_lt_of_cell? w _ hx255_0)).trans hx255_0
           replace hx255_1 := (HB.out.cell (World.block_lt_of_cell? w _ hx255_1)).trans hx255_1
           replace hx255_2 := (HB.out.cell (World.block_lt_of_cell? w _ hx255_2)).trans hx255_2
           replace hx255_3 := (HB.out.cell (World.block_lt_of_cell? w _ hx255_3)).trans hx255_3
           replace hx255_4 := (HB.out.cell (World.block_lt_of_cell? w _ hx255_4)).trans hx255_4
           replace p255 := eq_true p255
           replace q255 := eq_true q255
           go_wp2_with (first | ((with_reducible refine gate_dst (N := 15) rfl ?_); refine boxA (N := 15) (cs := #[.int .i64 0, .int .i64 0, .string (⟨#[]⟩ : ByteArray), .int .i64 0, .int .i64 0]) (t := 33) ?_; intro gb256 hg w27 hbox hb; have n0_ := rB HO_12 hb; have n1_ := bB BK235 hb; have n2_ := hB HB hb; have n3_ := Aside0.mk (hbox); have n4_ := gW hg HB; have n5_ := gW hg HB; have n6_ := nL hg BK235; have n7_ := nG hg BK235; clear HO_12; clear BK235; clear HB; have HO_12 := n0_; have BK235 := n1_; have HB := n2_; have BK256 := n3_; have GW256 := n4_; have GE256 := n5_; have NB235_256 := n6_; have NB256_235 := n7_; clear n0_ n1_ n2_ n3_ n4_ n5_ n6_ n7_; clear hb hbox hg; have hnb28 := NB256_235.out; have hnc28 := NB235_256.out; have hcz29_0 : w27.cell? ⟨gb256, 0, none⟩ = some (.int .i64 0) := lc BK256 0; have hcz29_1 : w27.cell? ⟨gb256, 1, none⟩ = some (.int .i64 0) := lc BK256 1; have hcz29_2 : w27.cell? ⟨gb256, 2, none⟩ = some (.string (⟨#[]⟩ : ByteArray)) := lc BK256 2; have hcz29_3 : w27.cell? ⟨gb256, 3, none⟩ = some (.int .i64 0) := lc BK256 3; have hcz29_4 : w27.cell? ⟨gb256, 4, none⟩ = some (.int .i64 0) := lc BK256 4; have hfz29_0 := fz BK256 0; have hfz29_1 := fz BK256 1; have hfz29_2 := fz BK256 2; have hfz29_3 := fz BK256 3; have hfz29_4 := fz BK256 4) | ((with_reducible refine gate_callee (f := 32) rfl ?_); refine goA (some 66) Try.func32 #[.int .i64 ((rd_T33 l1_3 x60_1).f0)] ?_; (with_reducible refine (valuation_sign.calls ((rd_T33 l1_3 x60_1).f0) t257 _ A25.out).mono ?_); rintro e w' ⟨rfl, ⟨nd, rfl⟩⟩; refine ⟨_, rfl, ?_⟩))
           go_roundg k1
           case measure => have := HK1.out; omega
           case rel => exact ⟨(x12_1), (wrap64 (x60_1 + 1)), (by first | rfl | (simp; done) | (simp [*]; done)), H', ⟨by have := HK1.out; omega⟩, ⟨by (with_reducible repeat (first | apply Kd.R_alloc | apply Kd.R_drewN | apply Kd.R_drew)); exact Kd.R_mono (Kd.R_far (p := ⟨gb256, 4, none⟩) (Kd.R_far (p := ⟨gb256, 3, none⟩) (Kd.R_far (p := ⟨gb256, 2, none⟩) (Kd.R_far (p := ⟨gb256, 1, none⟩) (Kd.R_far (p := ⟨gb256, 0, none⟩) (Kd.R_types HO_12.out BK256.out (by decide)) (fun _ hk => hk.2) (.int .i64 ((rd_T33 l1_3 x60_1).f0))) (fun _ hk => hk.2) (.int .i64 ((rd_T33 l1_3 x60_1).f1))) (fun _ hk => hk.2) (.string ((rd_T33 l1_3 x60_1).f2))) (fun _ hk => hk.2) (.int .i64 ((rd_T33 l1_3 x60_1).f3))) (fun _ hk => hk.2) (.int .i64 ((rd_T33 l1_3 x60_1).f4))) (fun _ hk => trivial)⟩, ⟨by (with_reducible repeat (first | refine blk_drewN ?_ _ | refine blk_drew ?_ | refine blk_alloc ?_ _)); refine blk_far ?_ NB235_256.out _; (with_reducible repeat (first | refine blk_drewN ?_ _ | refine blk_drew ?_ | refine blk_alloc ?_ _)); refine blk_far ?_ NB235_256.out _; (with_reducible repeat (first | refine blk_drewN ?_ _ | refine blk_drew ?_ | refine blk_alloc ?_ _)); refine blk_far ?_ NB235_256.out _; (with_reducible repeat (first | refine blk_drewN ?_ _ | refine blk_drew ?_ | refine blk_alloc ?_ _)); refine blk_far ?_ NB235_256.out _; (with_reducible repeat (first | refine blk_drewN ?_ _ | refine blk_drew ?_ | refine blk_alloc ?_ _)); refine blk_far ?_ NB235_256.out _; (with_reducible repeat (first | refine blk_drewN ?_ _ | refine blk_drew ?_ | refine blk_alloc ?_ _)); exact BK235.out⟩, ⟨aH HB⟩⟩
          ·rw [if_neg c26] at H
           have c26b0 : (t257 == 0) = false := beq_eq_false_iff_ne.mpr c26
           have c26b1 : (t257 != 0) = true := bne_iff_ne.mpr c26
           replace H := Option.bind_eq_some_iff.mp H
           obtain ⟨⟨t258, t259⟩, A300, H⟩ := H
           replace H : (if t259 = 0 then ((valuation_divide.f k1 a1_0 a1_1 l1_2 l1_3 ((rd_T33 l1_3 x60_1).f0) ((rd_T33 l1_3 x60_1).f1) ((rd_T33 l1_3 x60_1).f2) ((rd_T33 l1_3 x60_1).f3) ((rd_T33 l1_3 x60_1).f4) t258).bind fun t260 => (valuation_Values.l1 k1 l0 x12_1 l1_3 (l1_3.length : Int) x60_1 t260 (t260.length : Int) 0 a1_0 a1_1 l1_2 l1_3 ((rd_T33 l1_3 x60_1).f0) ((rd_T33 l1_3 x60_1).f1) ((rd_T33 l1_3 x60_1).f2) ((rd_T33 l1_3 x60_1).f3) ((rd_T33 l1_3 x60_1).f4))) else (some (([] : List Int), t259))) = some (r1, r2) := H
           have A30 := Aside0.mk A300
           clear A300
           by_cases c31 : t259 = 0
           ·rw [if_pos c31] at H
            have c31b0 : (t259 == 0) = true := beq_iff_eq.mpr c31
            have c31b1 : (t259 != 0) = false := bne_eq_false_iff_eq.mpr c31
            clear c31
            replace H := Option.bind_eq_some_iff.mp H
            obtain ⟨t260, A320, H⟩ := H
            replace H : (valuation_Values.l1 k1 l0 x12_1 l1_3 (l1_3.length : Int) x60_1 t260 (t260.length : Int) 0 a1_0 a1_1 l1_2 l1_3 ((rd_T33 l1_3 x60_1).f0) ((rd_T33 l1_3 x60_1).f1) ((rd_T33 l1_3 x60_1).f2) ((rd_T33 l1_3 x60_1).f3) ((rd_T33 l1_3 x60_1).f4)) = some (r1, r2) := H
            have A32 := Aside0.mk A320
            clear A320
            have H' := Aside0.mk H
            clear H
            have p255 : 0 ≤ (x60_1 : Int) := of_decide_eq_true (by first | (with_reducible assumption) | assumption)
            have q255 : x60_1 < (l1_3.length : Int) := of_decide_eq_true (by first | (with_reducible assumption) | assumption)
            obtain ⟨ad255, e255, hx255_0, hx255_1, hx255_2, hx255_3, hx255_4⟩ := at_T33 HR1_3.out x60_1 p255 q255
            cases e255
            replace hx255_0 := (HB.out.cell (World.block_lt_of_cell? w _ hx255_0)).trans hx255_0
            replace hx255_1 := (HB.out.cell (World.block_lt_of_cell? w _ hx255_1)).trans hx255_1
            replace hx255_2 := (HB.out.cell (World.block_lt_of_cell? w _ hx255_2)).trans hx255_2
            replace hx255_3 := (HB.out.cell (World.block_lt_of_cell? w _ hx255_3)).trans hx255_3
            replace hx255_4 := (HB.out.cell (World.block_lt_of_cell? w _ hx255_4)).trans hx255_4
            replace p255 := eq_true p255
            replace q255 := eq_true q255
            go_wp2_with (first | ((with_reducible refine gate_dst (N := 15) rfl ?_); refine boxA (N := 15) (cs := #[.int .i64 0, .int .i64 0, .string (⟨#[]⟩ : ByteArray), .int .i64 0, .int .i64 0]) (t := 33) ?_; intro gb256 hg w33 hbox hb; have n0_ := rB HO_12 hb; have n1_ := bB BK235 hb; have n2_ := hB HB hb; have n3_ := Aside0.mk (hbox); have n4_ := gW hg HB; have n5_ := gW hg HB; have n6_ := nL hg BK235; have n7_ := nG hg BK235; clear HO_12; clear BK235; clear HB; have HO_12 := n0_; have BK235 := n1_; have HB := n2_; have BK256 := n3_; have GW256 := n4_; have GE256 := n5_; have NB235_256 := n6_; have NB256_235 := n7_; clear n0_ n1_ n2_ n3_ n4_ n5_ n6_ n7_; clear hb hbox hg; have hnb34 := NB256_235.out; have hnc34 := NB235_256.out; have hcz35_0 : w33.cell? ⟨gb256, 0, none⟩ = some (.int .i64 0) := lc BK256 0; have hcz35_1 : w33.cell? ⟨gb256, 1, none⟩ = some (.int .i64 0) := lc BK256 1; have hcz35_2 : w33.cell? ⟨gb256, 2, none⟩ = some (.string (⟨#[]⟩ : ByteArray)) := lc BK256 2; have hcz35_3 : w33.cell? ⟨gb256, 3, none⟩ = some (.int .i64 0) := lc BK256 3; have hcz35_4 : w33.cell? ⟨gb256, 4, none⟩ = some (.int .i64 0) := lc BK256 4; have hfz35_0 := fz BK256 0; have hfz35_1 := fz BK256 1; have hfz35_2 := fz BK256 2; have hfz35_3 := fz BK256 3; have hfz35_4 := fz BK256 4) | ((with_reducible refine gate_callee (f := 32) rfl ?_); refine goA (some 66) Try.func32 #[.int .i64 ((rd_T33 l1_3 x60_1).f0)] ?_; (with_reducible refine (valuation_sign.calls ((rd_T33 l1_3 x60_1).f0) t257 _ A25.out).mono ?_); rintro e w' ⟨rfl, ⟨nd, rfl⟩⟩; refine ⟨_, rfl, ?_⟩; have hcz36_0 : w33.cell? ⟨gb235, 0, none⟩ = some (.string a1_0) := lc BK235 0; have hcz36_1 : w33.cell? ⟨gb235, 1, none⟩ = some (.int .i64 a1_1) := lc BK235 1; have hcz36_2 : w33.cell? ⟨gb235, 2, none⟩ = some (.slice A1_2 l1_2.length c1_2) := lc BK235 2; have hcz36_3 : w33.cell? ⟨gb235, 3, none⟩ = some (.slice (some ad255) l1_3.length c1_3) := lc BK235 3; have hfz36_0 := fz BK235 0; have hfz36_1 := fz BK235 1; have hfz36_2 := fz BK235 2; have hfz36_3 := fz BK235 3) | ((with_reducible refine gate_callee (f := 21) rfl ?_); refine goA (some 76) Try.func21 #[.slice A0 l0.length c0, .int .i64 ((rd_T33 l1_3 x60_1).f1), .string ((rd_T33 l1_3 x60_1).f2), .int .i64 a1_1, .int .i64 2] ?_; (with_reducible refine (currency_Convert.calls k1 _ _ l0 ((rd_T33 l1_3 x60_1).f1) ((rd_T33 l1_3 x60_1).f2) a1_1 2 t258 t259 _ ?side1 ?side2 A30.out).mono ?_); (case side1 => exact Kd.C_below HR0.out (aH HB)); (case side2 => exact HC0.out); rintro e w37 ⟨rfl, hb⟩; refine ⟨_, rfl, ?_⟩; have n0_ := Aside0.mk (Kd.R_below (by (with_reducible repeat (first | apply Kd.R_alloc | apply Kd.R_drewN | apply Kd.R_drew)); exact (Kd.R_mono (Kd.R_far (p := ⟨gb256, 4, none⟩) (Kd.R_far (p := ⟨gb256, 3, none⟩) (Kd.R_far (p := ⟨gb256, 2, none⟩) (Kd.R_far (p := ⟨gb256, 1, none⟩) (Kd.R_far (p := ⟨gb256, 0, none⟩) (Kd.R_types HO_12.out BK256.out (by decide)) (fun _ hk => hk.2) (.int .i64 ((rd_T33 l1_3 x60_1).f0))) (fun _ hk => hk.2) (.int .i64 ((rd_T33 l1_3 x60_1).f1))) (fun _ hk => hk.2) (.string ((rd_T33 l1_3 x60_1).f2))) (fun _ hk => hk.2) (.int .i64 ((rd_T33 l1_3 x60_1).f3))) (fun _ hk => hk.2) (.int .i64 ((rd_T33 l1_3 x60_1).f4))) (fun _ h_ => h_.1))) hb); have n1_ := Aside0.mk (blk_below (g := gb235) (o := .cells #[.string a1_0, .int .i64 a1_1, .slice A1_2 l1_2.length c1_2, .slice (some ad255) l1_3.length c1_3] 25 (0, 0)) (by (with_reducible repeat (first | refine blk_drewN ?_ _ | refine blk_drew ?_ | refine blk_alloc ?_ _)); refine blk_far ?_ NB235_256.out _; (with_reducible repeat (first | refine blk_drewN ?_ _ | refine blk_drew ?_ | refine blk_alloc ?_ _)); refine blk_far ?_ NB235_256.out _; (with_reducible repeat (first | refine blk_drewN ?_ _ | refine blk_drew ?_ | refine blk_alloc ?_ _)); refine blk_far ?_ NB235_256.out _; (with_reducible repeat (first | refine blk_drewN ?_ _ | refine blk_drew ?_ | refine blk_alloc ?_ _)); refine blk_far ?_ NB235_256.out _; (with_reducible repeat (first | refine blk_drewN ?_ _ | refine blk_drew ?_ | refine blk_alloc ?_ _)); refine blk_far ?_ NB235_256.out _; (with_reducible repeat (first | refine blk_drewN ?_ _ | refine blk_drew ?_ | refine blk_alloc ?_ _)); exact BK235.out) hb); have n2_ := Aside0.mk (blk_below (g := gb256) (o := .cells #[.int .i64 ((rd_T33 l1_3 x60_1).f0), .int .i64 ((rd_T33 l1_3 x60_1).f1), .string ((rd_T33 l1_3 x60_1).f2), .int .i64 ((rd_T33 l1_3 x60_1).f3), .int .i64 ((rd_T33 l1_3 x60_1).f4)] 33 (0, 0)) (by (with_reducible repeat (first | refine blk_drewN ?_ _ | refine blk_drew ?_ | refine blk_alloc ?_ _)); refine blk_put (cs := #[.int .i64 ((rd_T33 l1_3 x60_1).f0), .int .i64 ((rd_T33 l1_3 x60_1).f1), .string ((rd_T33 l1_3 x60_1).f2), .int .i64 ((rd_T33 l1_3 x60_1).f3), .int .i64 0]) ?_ 4 _ rfl; (with_reducible repeat (first | refine blk_drewN ?_ _ | refine blk_drew ?_ | refine blk_alloc ?_ _)); refine blk_put (cs := #[.int .i64 ((rd_T33 l1_3 x60_1).f0), .int .i64 ((rd_T33 l1_3 x60_1).f1), .string ((rd_T33 l1_3 x60_1).f2), .int .i64 0, .int .i64 0]) ?_ 3 _ rfl; (with_reducible repeat (first | refine blk_drewN ?_ _ | refine blk_drew ?_ | refine blk_alloc ?_ _)); refine blk_put (cs := #[.int .i64 ((rd_T33 l1_3 x60_1).f0), .int .i64 ((rd_T33 l1_3 x60_1).f1), .string (⟨#[]⟩ : ByteArray), .int .i64 0, .int .i64 0]) ?_ 2 _ rfl; (with_reducible repeat (first | refine blk_drewN ?_ _ | refine blk_drew ?_ | refine blk_alloc ?_ _)); refine blk_put (cs := #[.int .i64 ((rd_T33 l1_3 x60_1).f0), .int .i64 0, .string (⟨#[]⟩ : ByteArray), .int .i64 0, .int .i64 0]) ?_ 1 _ rfl; (with_reducible repeat (first | refine blk_drewN ?_ _ | refine blk_drew ?_ | refine blk_alloc ?_ _)); refine blk_put (cs := #[.int .i64 0, .int .i64 0, .string (⟨#[]⟩ : ByteArray), .int .i64 0, .int .i64 0]) ?_ 0 _ rfl; (with_reducible repeat (first | refine blk_drewN ?_ _ | refine blk_drew ?_ | refine blk_alloc ?_ _)); exact BK256.out) hb); have n3_ := hB HB hb; clear HO_12; clear BK235; clear BK256; clear HB; have HO_12 := n0_; have BK235 := n1_; have BK256 := n2_; have HB := n3_; clear n0_ n1_ n2_ n3_; have hcz38_0 : w37.cell? ⟨gb235, 0, none⟩ = some (.string a1_0) := lc BK235 0; have hcz38_1 : w37.cell? ⟨gb235, 1, none⟩ = some (.int .i64 a1_1) := lc BK235 1; have hcz38_2 : w37.cell? ⟨gb235, 2, none⟩ = some (.slice A1_2 l1_2.length c1_2) := lc BK235 2; have hcz38_3 : w37.cell? ⟨gb235, 3, none⟩ = some (.slice (some ad255) l1_3.length c1_3) := lc BK235 3; have hfz38_0 := fz BK235 0; have hfz38_1 := fz BK235 1; have hfz38_2 := fz BK235 2; have hfz38_3 := fz BK235 3; have hcz39_0 : w37.cell? ⟨gb256, 0, none⟩ = some (.int .i64 ((rd_T33 l1_3 x60_1).f0)) := lc BK256 0; have hcz39_1 : w37.cell? ⟨gb256, 1, none⟩ = some (.int .i64 ((rd_T33 l1_3 x60_1).f1)) := lc BK256 1; have hcz39_2 : w37.cell? ⟨gb256, 2, none⟩ = some (.string ((rd_T33 l1_3 x60_1).f2)) := lc BK256 2; have hcz39_3 : w37.cell? ⟨gb256, 3, none⟩ = some (.int .i64 ((rd_T33 l1_3 x60_1).f3)) := lc BK256 3; have hcz39_4 : w37.cell? ⟨gb256, 4, none⟩ = some (.int .i64 ((rd_T33 l1_3 x60_1).f4)) := lc BK256 4; have hfz39_0 := fz BK256 0; have hfz39_1 := fz BK256 1; have hfz39_2 := fz BK256 2; have hfz39_3 := fz BK256 3; have hfz39_4 := fz BK256 4; clear hb) | ((with_reducible refine gate_callee (f := 33) rfl ?_); refine goA (some 85) Try.func33 #[.agg #[.string a1_0, .int .i64 a1_1, .slice A1_2 l1_2.length c1_2, .slice (some ad255) l1_3.length c1_3], .agg #[.int .i64 ((rd_T33 l1_3 x60_1).f0), .int .i64 ((rd_T33 l1_3 x60_1).f1), .string ((rd_T33 l1_3 x60_1).f2), .int .i64 ((rd_T33 l1_3 x60_1).f3), .int .i64 ((rd_T33 l1_3 x60_1).f4)], .int .i64 t258] ?_; (with_reducible refine (valuation_divide.calls k1 a1_0 a1_1 _ _ l1_2 _ _ l1_3 ((rd_T33 l1_3 x60_1).f0) ((rd_T33 l1_3 x60_1).f1) ((rd_T33 l1_3 x60_1).f2) ((rd_T33 l1_3 x60_1).f3) ((rd_T33 l1_3 x60_1).f4) t258 t260 _ ?side1 ?side2 ?side3 ?side4 A32.out).mono ?_); (case side1 => repeat (first | exact (Kd.C_below HR1_2.out HB.out) | (with_reducible refine Kd.C_alloc ?_ _) | (with_reducible refine Kd.C_drewN ?_ _) | (with_reducible refine Kd.C_drew ?_))); (case side2 => exact HC1_2.out); (case side3 => repeat (first | exact (Kd.C_below HR1_3.out HB.out) | (with_reducible refine Kd.C_alloc ?_ _) | (with_reducible refine Kd.C_drewN ?_ _) | (with_reducible refine Kd.C_drew ?_))); (case side4 => exact HC1_3.out); rintro e w40 ⟨v261, rfl, ho0, hb⟩; refine ⟨_, rfl, ?_⟩; have n0_ := Aside0.mk (Kd.R_elder' (aR HO_12) (Kd.R_base ho0) hb); have n1_ := Aside0.mk (Kd.R_lower (Kd.R_new' ho0 (Kd.R_lt (aR HO_12))) (below_size (aH HB))); have n2_ := bB BK235 hb; have n3_ := bB BK256 hb; have n4_ := hB HB hb; clear HO_12; clear BK235; clear BK256; clear HB; have HO_12 := n0_; have HO262 := n1_; have BK235 := n2_; have BK256 := n3_; have HB := n4_; clear n0_ n1_ n2_ n3_ n4_; obtain ⟨Ao41, co41, eo41⟩ := Kd.R_slice HO262.out; subst eo41; clear hb ho0))
            go_loopg [87] k1 (fun kq v87 w' => ∃ (x12_2 : List Int) (x87_2 : Int), v87 = .int .i64 x87_2 ∧ Aside0 (valuation_Values.l1 kq l0 x12_2 l1_3 (l1_3.length : Int) x60_1 t260 (t260.length : Int) x87_2 a1_0 a1_1 l1_2 l1_3 ((rd_T33 l1_3 x60_1).f0) ((rd_T33 l1_3 x60_1).f1) ((rd_T33 l1_3 x60_1).f2) ((rd_T33 l1_3 x60_1).f3) ((rd_T33 l1_3 x60_1).f4) = some (r1, r2)) ∧ Aside0 (kq ≤ k1) ∧ Aside0 (Kd.R (Kd.int .i64) 3 w' w.heap.size (fun k_ => some k_ ≠ ((.slice Ao41 t260.length co41) : Value).ownBlock) v249 x12_2) ∧ Aside0 (Kd.R (Kd.int .i64) 3 w' w.heap.size (fun k_ => some k_ ≠ (v249 : Value).ownBlock) (.slice Ao41 t260.length co41) t260) ∧ Aside0 (w'.heap[gb235]? = some (.cells #[.string a1_0, .int .i64 a1_1, (.slice A1_2 l1_2.length c1_2), (.slice (some ad255) l1_3.length c1_3)] 25 (0, 0))) ∧ Aside0 (w'.heap[gb256]? = some (.cells #[.int .i64 ((rd_T33 l1_3 x60_1).f0), .int .i64 ((rd_T33 l1_3 x60_1).f1), .string ((rd_T33 l1_3 x60_1).f2), .int .i64 ((rd_T33 l1_3 x60_1).f3), .int .i64 ((rd_T33 l1_3 x60_1).f4)] 33 (0, 0))) ∧ Aside0 (Below w.heap.size w w'))
            case atStart => exact ⟨(x12_1), (0), (by first | rfl | (simp; done) | (simp [*]; done)), H', ⟨Nat.le_refl _⟩, ⟨by (with_reducible repeat (first | apply Kd.R_alloc | apply Kd.R_drewN | apply Kd.R_drew)); exact Kd.R_mono HO_12.out (fun _ hk => hk.2)⟩, ⟨by (with_reducible repeat (first | apply Kd.R_alloc | apply Kd.R_drewN | apply Kd.R_drew)); exact Kd.R_mono HO262.out (fun _ hk => hk.2)⟩, ⟨aB BK235⟩, ⟨aB BK256⟩, ⟨aH HB⟩⟩
            case round =>
             clear H'
             try clear c1
             try clear c2
             try clear p2
             try clear q2
             try clear hx2
             try clear c3
             try clear c4
             try clear c4b0
             try clear c4b1
             try clear p6
             try clear c7
             try clear c7b0
             try clear c7b1
             try clear c9
             try clear c9b0
             try clear c9b1
             try clear c11
             try clear c16
             try clear c21
             try clear c22
             try clear c22b0
             try clear c23
             try clear c23b0
             try clear c24
             try clear c24b0
             try clear p25
             try clear q25
             try clear hx25
             try clear c26
             try clear c26b0
             try clear c26b1
             try clear c28
             try clear c29
             try clear c30
             try clear c31
             try clear c31b0
             try clear c31b1
             try clear c32
             try clear c33
             try clear c34
             try clear hcz12_0
             try clear hcz12_1
             try clear hcz12_2
             try clear hcz12_3
             try clear hcz14_0
             try clear hcz14_1
             try clear hcz14_2
             try clear hcz14_3
             try clear hcz18_0
             try clear hcz18_1
             try clear hcz18_2
             try clear hcz18_3
             try clear hcz21_0
             try clear hcz21_1
             try clear hcz21_2
             try clear hcz21_3
             try clear hcz29_0
             try clear hcz29_1
             try clear hcz29_2
             try clear hcz29_3
             try clear hcz29_4
             try clear hcz35_0
             try clear hcz35_1
             try clear hcz35_2
             try clear hcz35_3
             try clear hcz35_4
             try clear hcz36_0
             try clear hcz36_1
             try clear hcz36_2
             try clear hcz36_3
             try clear hcz38_0
             try clear hcz38_1
             try clear hcz38_2
             try clear hcz38_3
             try clear hcz39_0
             try clear hcz39_1
             try clear hcz39_2
             try clear hcz39_3
             try clear hcz39_4
             try clear hfz12_0
             try clear hfz12_1
             try clear hfz12_2
             try clear hfz12_3
             try clear hfz14_0
             try clear hfz14_1
             try clear hfz14_2
             try clear hfz14_3
             try clear hfz18_0
             try clear hfz18_1
             try clear hfz18_2
             try clear hfz18_3
             try clear hfz21_0
             try clear hfz21_1
             try clear hfz21_2
             try clear hfz21_3
             try clear hfz29_0
             try clear hfz29_1
             try clear hfz29_2
             try clear hfz29_3
             try clear hfz29_4
             try clear hfz35_0
             try clear hfz35_1
             try clear hfz35_2
             try clear hfz35_3
             try clear hfz35_4
             try clear hfz36_0
             try clear hfz36_1
             try clear hfz36_2
             try clear hfz36_3
             try clear hfz38_0
             try clear hfz38_1
             try clear hfz38_2
             try clear hfz38_3
             try clear hfz39_0
             try clear hfz39_1
             try clear hfz39_2
             try clear hfz39_3
             try clear hfz39_4
             try clear hx255_0
             try clear hx255_1
             try clear hx255_2
             try clear hx255_3
             try clear hx255_4
             try clear p2
             try clear p255
             try clear q255
             obtain ⟨x12_2, x87_2, rfl, HA, HK2, HO_12, HO_85, BK235, BK256, HB⟩ := hrel
             cases gk with
             | zero => exact absurd HA.out (by simp [valuation_Values.l1])
             | succ k2 =>
              have H := HA.out
              clear HA
              simp only [valuation_Values.l1] at H
              by_cases c42 : x87_2 < (t260.length : Int)
              ·rw [if_pos c42] at H
               have c42b0 : decide (x87_2 < (t260.length : Int)) = true := decide_eq_true c42
               clear c42
               by_cases c43 : 0 ≤ x87_2
               ·rw [if_pos c43] at H
                have c43b0 : decide (0 ≤ x87_2) = true := decide_eq_true c43
                clear c43
                by_cases c44 : x87_2 < (t260.length : Int)
                ·rw [if_pos c44] at H
                 have c44b0 : decide (x87_2 < (t260.length : Int)) = true := decide_eq_true c44
                 clear c44
                 by_cases c45 : x87_2 < (x12_2.length : Int)
                 ·rw [if_pos c45] at H
                  have c45b0 : decide (x87_2 < (x12_2.length : Int)) = true := decide_eq_true c45
                  clear c45
                  replace H := Option.bind_eq_some_iff.mp H
                  obtain ⟨t265, A460, H⟩ := H
                  replace H : (valuation_Values.l1 k2 l0 (x12_2.set (x87_2 : Int).toNat (wrap64 ((rd x12_2 x87_2) + (wrap64 (t265 * (rd t260 x87_2)))))) l1_3 (l1_3.length : Int) x60_1 t260 (t260.length : Int) (wrap64 (x87_2 + 1)) a1_0 a1_1 l1_2 l1_3 ((rd_T33 l1_3 x60_1).f0) ((rd_T33 l1_3 x60_1).f1) ((rd_T33 l1_3 x60_1).f2) ((rd_T33 l1_3 x60_1).f3) ((rd_T33 l1_3 x60_1).f4)) = some (r1, r2) := H
                  have A46 := Aside0.mk A460
                  clear A460
                  obtain ⟨y266, hy266⟩ : ∃ y_ : List Int, y_ = (x12_2.set (x87_2 : Int).toNat (wrap64 ((rd x12_2 x87_2) + (wrap64 (t265 * (rd t260 x87_2)))))) := ⟨_, rfl⟩
                  replace H : (valuation_Values.l1 k2 l0 y266 l1_3 (l1_3.length : Int) x60_1 t260 (t260.length : Int) (wrap64 (x87_2 + 1)) a1_0 a1_1 l1_2 l1_3 ((rd_T33 l1_3 x60_1).f0) ((rd_T33 l1_3 x60_1).f1) ((rd_T33 l1_3 x60_1).f2) ((rd_T33 l1_3 x60_1).f3) ((rd_T33 l1_3 x60_1).f4)) = some (r1, r2) := by first | (rw [hy266]; with_reducible exact H) | (have H2_ := (Option.bind_some _ _).symm.trans H; rw [hy266]; with_reducible exact H2_) | (have H2_ := (Option.bind_some _ _).symm.trans H; with_reducible exact H2_) | with_reducible exact H | (rw [hy266]; exact H) | exact H
                  have Ny266 := Aside0.mk hy266
                  clear hy266
                  have H' := Aside0.mk H
                  clear H
                  have p263 : 0 ≤ (x87_2 : Int) := of_decide_eq_true (by first | (with_reducible assumption) | assumption)
                  have q263 : x87_2 < (t260.length : Int) := of_decide_eq_true (by first | (with_reducible assumption) | assumption)
                  obtain ⟨ad263, e263, hx263_0⟩ := Kd.at_int (Kd.R_reads' HO_85.out).2.2 x87_2 p263 q263
                  cases e263
                  replace p263 := eq_true p263
                  replace q263 := eq_true q263
                  try go_wp2
                  have n0_ := Aside0.mk (Kd.R_drew HO_12.out)
                  have n1_ := Aside0.mk (Kd.R_drew HO_85.out)
                  have n2_ := Aside0.mk (blk_drew BK235.out)
                  have n3_ := Aside0.mk (blk_drew BK256.out)
                  have n4_ := Aside0.mk (below_drew1 HB.out)
                  clear HO_12
                  clear HO_85
                  clear BK235
                  clear BK256
                  clear HB
                  have HO_12 := n0_
                  have HO_85 := n1_
                  have BK235 := n2_
                  have BK256 := n3_
                  have HB := n4_
                  clear n0_ n1_ n2_ n3_ n4_
                  obtain ⟨Ao49, co49, eo49⟩ := Kd.R_slice HO_12.out
                  (first | subst eo49 | (injection eo49 with f1_ f2_ f3_; have f4_ := f1_.symm; have f5_ := f3_.symm; clear f1_ f2_ f3_; subst f4_; subst f5_))
                  have p264 : 0 ≤ (x87_2 : Int) := of_decide_eq_true (by first | (with_reducible assumption) | assumption)
                  have q264 : x87_2 < (x12_2.length : Int) := of_decide_eq_true (by first | (with_reducible assumption) | assumption)
                  obtain ⟨ad264, e264, hx264_0⟩ := Kd.at_int (Kd.R_reads' HO_12.out).2.2 x87_2 p264 q264
                  cases e264
                  replace p264 := eq_true p264
                  replace q264 := eq_true q264
                  refine start_ (n := 12) (S := fun w' => w'.cell? ⟨gb256, 0, none⟩ = some (.int .i64 ((rd_T33 l1_3 x60_1).f0)) ∧ w'.cell? ⟨gb256, 1, none⟩ = some (.int .i64 ((rd_T33 l1_3 x60_1).f1)) ∧ w'.cell? ⟨gb256, 2, none⟩ = some (.string ((rd_T33 l1_3 x60_1).f2)) ∧ w'.cell? ⟨gb256, 3, none⟩ = some (.int .i64 ((rd_T33 l1_3 x60_1).f3)) ∧ w'.cell? ⟨gb256, 4, none⟩ = some (.int .i64 ((rd_T33 l1_3 x60_1).f4)) ∧ w'.cell? (ad264.add (x87_2).toNat) = some (.int .i64 (rd x12_2 x87_2))) (ds := [11]) #[false, false, false, false, false, false, false, false, false, false, false, false] (by kernel_rfl) rfl rfl ⟨(blk_cell BK256.out 0).trans rfl, (blk_cell BK256.out 1).trans rfl, (blk_cell BK256.out 2).trans rfl, (blk_cell BK256.out 3).trans rfl, (blk_cell BK256.out 4).trans rfl, hx264_0⟩ (fun hHeld => ?_); refine with_tabW valuation_Values.tab22 valuation_Values.bits22 (fun HT_ HW_ => ?_)
                  generalize wr.drew = w48 at HO_12 HO_85 BK235 BK256 HB hx264_0 hHeld ⊢
                  refine pure_ (i := 0) (N := some 92) (v := ?_) (a' := ?_) #[true, false, false, false, false, false, false, false, false, false, false, false] rfl rfl (any_of HT_.out (by kernel_rfl)) (fun _ _ _ h => h) (Or.inl ⟨by rfl, ?_⟩) ?_ ?_
                  rotate_left
                  ·intro w'
                   go_simp
                   with_reducible rfl
                  rotate_left
                  ·simp only [Act.put, List.setIfInBounds_toArray, List.set_cons_zero, List.set_cons_succ, i64_w, i32_w]
                   rfl
                  refine pure_ (i := 1) (N := some 93) (v := ?_) (a' := ?_) #[true, true, false, false, false, false, false, false, false, false, false, false] rfl rfl (any_of HT_.out (by kernel_rfl)) (fun _ _ _ h => h) (Or.inl ⟨by rfl, ?_⟩) ?_ ?_
                  rotate_left
                  ·intro w'
                   go_simp
                   with_reducible rfl
                  rotate_left
                  ·simp only [Act.put, List.setIfInBounds_toArray, List.set_cons_zero, List.set_cons_succ, i64_w, i32_w]
                   rfl
                  refine pure_ (i := 2) (N := some 94) (v := ?_) (a' := ?_) #[true, true, true, false, false, false, false, false, false, false, false, false] rfl rfl (any_of HT_.out (by kernel_rfl)) (fun _ _ _ h => h) (Or.inl ⟨by rfl, ?_⟩) ?_ ?_
                  rotate_left
                  ·intro w'
                   go_simp
                   with_reducible rfl
                  rotate_left
                  ·simp only [Act.put, List.setIfInBounds_toArray, List.set_cons_zero, List.set_cons_succ, i64_w, i32_w]
                   rfl
                  refine pure_ (i := 4) (N := some 96) (v := ?_) (a' := ?_) #[true, true, true, false, true, false, false, false, false, false, false, false] rfl rfl (any_of HT_.out (by kernel_rfl)) (fun _ _ _ h => h) (Or.inl ⟨by rfl, ?_⟩) ?_ ?_
                  rotate_left
                  ·intro w'
                   go_simp
                   with_reducible rfl
                  rotate_left
                  ·simp only [Act.put, List.setIfInBounds_toArray, List.set_cons_zero, List.set_cons_succ, i64_w, i32_w]
                   rfl
                  refine pure_ (i := 7) (N := some 99) (v := ?_) (a' := ?_) #[true, true, true, false, true, false, false, true, false, false, false, false] rfl rfl (any_of HT_.out (by kernel_rfl)) (fun _ _ _ h => h) (Or.inl ⟨by rfl, ?_⟩) ?_ ?_
                  rotate_left
                  ·intro w'
                   go_simp
                   with_reducible rfl
                  rotate_left
                  ·simp only [Act.put, List.setIfInBounds_toArray, List.set_cons_zero, List.set_cons_succ, i64_w, i32_w]
                   rfl
                  refine take_ (i := 3) (N := some 95) (v := ?_) (a' := ?_) #[true, true, true, true, true, false, false, true, false, false, false, false] rfl rfl (take_ofW HT_.out HW_.out (by kernel_rfl)) (fun _ _ _ h => h) (Or.inl ⟨by rfl, ?_⟩) hHeld ?_ ?_
                  rotate_left
                  ·rintro w' ⟨s0, s1, s2, s3, s4, s5⟩
                   go_simp
                   with_reducible rfl
                  rotate_left
                  ·simp only [Act.put, List.setIfInBounds_toArray, List.set_cons_zero, List.set_cons_succ, i64_w, i32_w]
                   rfl
                  refine take_ (i := 5) (N := some 97) (v := ?_) (a' := ?_) #[true, true, true, true, true, true, false, true, false, false, false, false] rfl rfl (take_ofW HT_.out HW_.out (by kernel_rfl)) (fun _ _ _ h => h) (Or.inl ⟨by rfl, ?_⟩) hHeld ?_ ?_
                  rotate_left
                  ·rintro w' ⟨s0, s1, s2, s3, s4, s5⟩
                   go_simp
                   with_reducible rfl
                  rotate_left
                  ·simp only [Act.put, List.setIfInBounds_toArray, List.set_cons_zero, List.set_cons_succ, i64_w, i32_w]
                   rfl
                  refine one_ (i := 6) (N := some 98) #[true, true, true, true, true, true, true, true, false, false, false, false] rfl rfl (one_of HT_.out (by kernel_rfl)) (by decide) (fun K hK => ?_)
                  refine goes_ Try.func32 (by kernel_rfl) rfl #[.int .i64 ((rd_T33 l1_3 x60_1).f0)] (by rfl) rfl rfl (by (try simp only [List.map_toArray, List.map_cons, List.map_nil]); first | done | rfl | (simp only [List.length_drop, List.length_take]; rfl)) ?_
                  with_reducible refine (valuation_sign.calls ((rd_T33 l1_3 x60_1).f0) t265 _ A46.out).mono ?_
                  rintro e w' ⟨rfl, ⟨nd, rfl⟩⟩
                  refine ⟨_, rfl, ?_⟩
                  have p47 : 0 ≤ (x87_2 : Int) := of_decide_eq_true (by first | (with_reducible assumption) | assumption)
                  have q47 : (x87_2 : Int) < ((x12_2.length : Int) : Int) := of_decide_eq_true (by first | (with_reducible assumption) | assumption)
                  obtain ⟨go47, co47, eo47, gb47, gl47, cl47, HG47⟩ := Kd.R_form HO_12.out (by omega)
                  (first | cases eo47 | (injection eo47 with ea_ en_ ec_; (first | subst ea_ | (injection ea_ with ea_; subst ea_)); subst ec_; clear en_))
                  have GB47 := Aside0.mk gb47
                  have GG47 := Aside0.mk HG47
                  clear gb47 gl47 HG47
                  (first | simp only [add_plain] at hx264_0 | skip)
                  obtain ⟨hx47_0, hf47_0⟩ := Kd.R_celln 0 HO_12.out (x87_2 : Int) p47 q47
                  replace p47 := eq_true p47
                  replace q47 := eq_true q47
                  have HP50 := Kd.R_putn HO_12.out (x87_2 : Int) (wrap64 ((rd x12_2 x87_2) + (wrap64 (t265 * (rd t260 x87_2)))))
                  rw [← Ny266.out] at HP50
                  have HQ50 := Aside0.mk HP50
                  clear HP50
                  refine hK.out _ _ ⟨(blk_cell BK256.out 0).trans rfl, (blk_cell BK256.out 1).trans rfl, (blk_cell BK256.out 2).trans rfl, (blk_cell BK256.out 3).trans rfl, (blk_cell BK256.out 4).trans rfl, hHeld.2.2.2.2.2⟩ (fun hHeld => ?_)
                  clear hK K
                  refine norm_ (a' := ?_) ?_ ?_
                  rotate_left
                  ·show Act.put _ (some 98) _ = _
                   simp only [Act.put, List.setIfInBounds_toArray, List.set_cons_zero, List.set_cons_succ, i64_w, i32_w]
                   rfl
                  refine pure_ (i := 8) (N := some 100) (v := ?_) (a' := ?_) #[true, true, true, true, true, true, true, true, true, false, false, false] rfl rfl (any_of HT_.out (by kernel_rfl)) (fun _ _ _ h => h) (Or.inl ⟨by rfl, ?_⟩) ?_ ?_
                  rotate_left
                  ·intro w'
                   go_simp
                   with_reducible rfl
                  rotate_left
                  ·simp only [Act.put, List.setIfInBounds_toArray, List.set_cons_zero, List.set_cons_succ, i64_w, i32_w]
                   rfl
                  refine pure_ (i := 9) (N := some 101) (v := ?_) (a' := ?_) #[true, true, true, true, true, true, true, true, true, true, false, false] rfl rfl (any_of HT_.out (by kernel_rfl)) (fun _ _ _ h => h) (Or.inl ⟨by rfl, ?_⟩) ?_ ?_
                  rotate_left
                  ·intro w'
                   go_simp
                   with_reducible rfl
                  rotate_left
                  ·simp only [Act.put, List.setIfInBounds_toArray, List.set_cons_zero, List.set_cons_succ, i64_w, i32_w]
                   rfl
                  refine pure_ (i := 10) (N := some 102) (v := ?_) (a' := ?_) #[true, true, true, true, true, true, true, true, true, true, true, false] rfl rfl (any_of HT_.out (by kernel_rfl)) (fun _ _ _ h => h) (Or.inl ⟨by rfl, ?_⟩) ?_ ?_
                  rotate_left
                  ·intro w'
                   go_simp
                   with_reducible rfl
                  rotate_left
                  ·simp only [Act.put, List.setIfInBounds_toArray, List.set_cons_zero, List.set_cons_succ, i64_w, i32_w]
                   rfl
                  refine last_ (i := 11) (N := none) #[true, true, true, true, true, true, true, true, true, true, true, true] rfl rfl (one_of HT_.out (by kernel_rfl)) (by decide) (fun K hK => ?_)
                  refine skip_ (w1 := ?_) (by rfl) rfl ?_ ?_
                  rotate_left
                  ·go_simp
                   rfl
                  refine hK.out _ _ ?_
                  clear hK K
                  refine done_ (done_of HT_.out (by kernel_rfl)) ?_
                  try go_wp2
                  go_roundg k2
                  case measure => have := HK1.out; have := HK2.out; omega
                  case rel => exact ⟨(y266), (wrap64 (x87_2 + 1)), (by first | rfl | (simp; done) | (simp [*]; done)), H', ⟨by have := HK1.out; have := HK2.out; omega⟩, ⟨aR HQ50⟩, ⟨by (with_reducible repeat (first | apply Kd.R_alloc | apply Kd.R_drewN | apply Kd.R_drew)); exact Kd.R_mono (Kd.R_far (p := ⟨go47, (x87_2 : Int).toNat, none⟩) (Kd.R_mono HO_85.out (fun k_ hk => (⟨hk, fun e_ => hk (by rw [e_]; rfl)⟩ : _ ∧ k_ ≠ go47))) (fun _ hk => hk.2) (.int .i64 (wrap64 ((rd x12_2 x87_2) + (wrap64 (t265 * (rd t260 x87_2))))))) (fun _ hk => hk.1)⟩, ⟨by (with_reducible repeat (first | refine blk_drewN ?_ _ | refine blk_drew ?_ | refine blk_alloc ?_ _)); refine blk_far ?_ (by have h_ := Kd.R_ne HO_12.out BK235.out (by decide); intro e_; exact h_ (by rw [e_]; rfl)) _; (with_reducible repeat (first | refine blk_drewN ?_ _ | refine blk_drew ?_ | refine blk_alloc ?_ _)); exact BK235.out⟩, ⟨by (with_reducible repeat (first | refine blk_drewN ?_ _ | refine blk_drew ?_ | refine blk_alloc ?_ _)); refine blk_far ?_ (by have h_ := Kd.R_ne HO_12.out BK256.out (by decide); intro e_; exact h_ (by rw [e_]; rfl)) _; (with_reducible repeat (first | refine blk_drewN ?_ _ | refine blk_drew ?_ | refine blk_alloc ?_ _)); exact BK256.out⟩, ⟨by repeat (first | (with_reducible first | exact HB.out | apply below_alloc | apply pw_below_drewN | apply below_drew1 | refine below_set ?_ GB47.out | refine below_set ?_ GE235.out | refine below_set ?_ GE256.out) | exact HB.out)⟩⟩
                 ·rw [if_neg c45] at H
                  exact absurd H (by simp)
                ·rw [if_neg c44] at H
                 exact absurd H (by simp)
               ·rw [if_neg c43] at H
                exact absurd H (by simp)
              ·rw [if_neg c42] at H
               have c42b0 : decide (x87_2 < (t260.length : Int)) = false := decide_eq_false c42
               clear c42
               have H' := Aside0.mk H
               clear H
               go_wp2
               go_roundg k2
               case measure => have := HK1.out; have := HK2.out; omega
               case rel => exact ⟨(x12_2), (wrap64 (x60_1 + 1)), (by first | rfl | (simp; done) | (simp [*]; done)), H', ⟨by have := HK1.out; have := HK2.out; omega⟩, ⟨by (with_reducible repeat (first | apply Kd.R_alloc | apply Kd.R_drewN | apply Kd.R_drew)); exact Kd.R_mono HO_12.out (fun _ hk => trivial)⟩, ⟨aB BK235⟩, ⟨aH HB⟩⟩
           ·rw [if_neg c31] at H
            have c31b0 : (t259 == 0) = false := beq_eq_false_iff_ne.mpr c31
            have c31b1 : (t259 != 0) = true := bne_iff_ne.mpr c31
            simp only [Option.some.injEq, Prod.mk.injEq] at H
            obtain ⟨rfl, rfl⟩ := H
            have p255 : 0 ≤ (x60_1 : Int) := of_decide_eq_true (by first | (with_reducible assumption) | assumption)
            have q255 : x60_1 < (l1_3.length : Int) := of_decide_eq_true (by first | (with_reducible assumption) | assumption)
            obtain ⟨ad255, e255, hx255_0, hx255_1, hx255_2, hx255_3, hx255_4⟩ := at_T33 HR1_3.out x60_1 p255 q255
            cases e255
            replace hx255_0 := (HB.out.cell (World.block_lt_of_cell? w _ hx255_0)).trans hx255_0
            replace hx255_1 := (HB.out.cell (World.block_lt_of_cell? w _ hx255_1)).trans hx255_1
            replace hx255_2 := (HB.out.cell (World.block_lt_of_cell? w _ hx255_2)).trans hx255_2
            replace hx255_3 := (HB.out.cell (World.block_lt_of_cell? w _ hx255_3)).trans hx255_3
            replace hx255_4 := (HB.out.cell (World.block_lt_of_cell? w _ hx255_4)).trans hx255_4
            replace p255 := eq_true p255
            replace q255 := eq_true q255
            go_wp2_with (first | ((with_reducible refine gate_dst (N := 15) rfl ?_); refine boxA (N := 15) (cs := #[.int .i64 0, .int .i64 0, .string (⟨#[]⟩ : ByteArray), .int .i64 0, .int .i64 0]) (t := 33) ?_; intro gb256 hg w51 hbox hb; have n0_ := rB HO_12 hb; have n1_ := bB BK235 hb; have n2_ := hB HB hb; have n3_ := Aside0.mk (hbox); have n4_ := gW hg HB; have n5_ := gW hg HB; have n6_ := nL hg BK235; have n7_ := nG hg BK235; clear HO_12; clear BK235; clear HB; have HO_12 := n0_; have BK235 := n1_; have HB := n2_; have BK256 := n3_; have GW256 := n4_; have GE256 := n5_; have NB235_256 := n6_; have NB256_235 := n7_; clear n0_ n1_ n2_ n3_ n4_ n5_ n6_ n7_; clear hb hbox hg; have hnb52 := NB256_235.out; have hnc52 := NB235_256.out; have hcz53_0 : w51.cell? ⟨gb256, 0, none⟩ = some (.int .i64 0) := lc BK256 0; have hcz53_1 : w51.cell? ⟨gb256, 1, none⟩ = some (.int .i64 0) := lc BK256 1; have hcz53_2 : w51.cell? ⟨gb256, 2, none⟩ = some (.string (⟨#[]⟩ : ByteArray)) := lc BK256 2; have hcz53_3 : w51.cell? ⟨gb256, 3, none⟩ = some (.int .i64 0) := lc BK256 3; have hcz53_4 : w51.cell? ⟨gb256, 4, none⟩ = some (.int .i64 0) := lc BK256 4; have hfz53_0 := fz BK256 0; have hfz53_1 := fz BK256 1; have hfz53_2 := fz BK256 2; have hfz53_3 := fz BK256 3; have hfz53_4 := fz BK256 4) | ((with_reducible refine gate_callee (f := 32) rfl ?_); refine goA (some 66) Try.func32 #[.int .i64 ((rd_T33 l1_3 x60_1).f0)] ?_; (with_reducible refine (valuation_sign.calls ((rd_T33 l1_3 x60_1).f0) t257 _ A25.out).mono ?_); rintro e w' ⟨rfl, ⟨nd, rfl⟩⟩; refine ⟨_, rfl, ?_⟩; have hcz54_0 : w51.cell? ⟨gb235, 0, none⟩ = some (.string a1_0) := lc BK235 0; have hcz54_1 : w51.cell? ⟨gb235, 1, none⟩ = some (.int .i64 a1_1) := lc BK235 1; have hcz54_2 : w51.cell? ⟨gb235, 2, none⟩ = some (.slice A1_2 l1_2.length c1_2) := lc BK235 2; have hcz54_3 : w51.cell? ⟨gb235, 3, none⟩ = some (.slice (some ad255) l1_3.length c1_3) := lc BK235 3; have hfz54_0 := fz BK235 0; have hfz54_1 := fz BK235 1; have hfz54_2 := fz BK235 2; have hfz54_3 := fz BK235 3) | ((with_reducible refine gate_callee (f := 21) rfl ?_); refine goA (some 76) Try.func21 #[.slice A0 l0.length c0, .int .i64 ((rd_T33 l1_3 x60_1).f1), .string ((rd_T33 l1_3 x60_1).f2), .int .i64 a1_1, .int .i64 2] ?_; (with_reducible refine (currency_Convert.calls k1 _ _ l0 ((rd_T33 l1_3 x60_1).f1) ((rd_T33 l1_3 x60_1).f2) a1_1 2 t258 t259 _ ?side1 ?side2 A30.out).mono ?_); (case side1 => exact Kd.C_below HR0.out (aH HB)); (case side2 => exact HC0.out); rintro e w55 ⟨rfl, hb⟩; refine ⟨_, rfl, ?_⟩; have n0_ := Aside0.mk (Kd.R_below (by (with_reducible repeat (first | apply Kd.R_alloc | apply Kd.R_drewN | apply Kd.R_drew)); exact (Kd.R_mono (Kd.R_far (p := ⟨gb256, 4, none⟩) (Kd.R_far (p := ⟨gb256, 3, none⟩) (Kd.R_far (p := ⟨gb256, 2, none⟩) (Kd.R_far (p := ⟨gb256, 1, none⟩) (Kd.R_far (p := ⟨gb256, 0, none⟩) (Kd.R_types HO_12.out BK256.out (by decide)) (fun _ hk => hk.2) (.int .i64 ((rd_T33 l1_3 x60_1).f0))) (fun _ hk => hk.2) (.int .i64 ((rd_T33 l1_3 x60_1).f1))) (fun _ hk => hk.2) (.string ((rd_T33 l1_3 x60_1).f2))) (fun _ hk => hk.2) (.int .i64 ((rd_T33 l1_3 x60_1).f3))) (fun _ hk => hk.2) (.int .i64 ((rd_T33 l1_3 x60_1).f4))) (fun _ h_ => h_.1))) hb); have n1_ := Aside0.mk (blk_below (g := gb235) (o := .cells #[.string a1_0, .int .i64 a1_1, .slice A1_2 l1_2.length c1_2, .slice (some ad255) l1_3.length c1_3] 25 (0, 0)) (by (with_reducible repeat (first | refine blk_drewN ?_ _ | refine blk_drew ?_ | refine blk_alloc ?_ _)); refine blk_far ?_ NB235_256.out _; (with_reducible repeat (first | refine blk_drewN ?_ _ | refine blk_drew ?_ | refine blk_alloc ?_ _)); refine blk_far ?_ NB235_256.out _; (with_reducible repeat (first | refine blk_drewN ?_ _ | refine blk_drew ?_ | refine blk_alloc ?_ _)); refine blk_far ?_ NB235_256.out _; (with_reducible repeat (first | refine blk_drewN ?_ _ | refine blk_drew ?_ | refine blk_alloc ?_ _)); refine blk_far ?_ NB235_256.out _; (with_reducible repeat (first | refine blk_drewN ?_ _ | refine blk_drew ?_ | refine blk_alloc ?_ _)); refine blk_far ?_ NB235_256.out _; (with_reducible repeat (first | refine blk_drewN ?_ _ | refine blk_drew ?_ | refine blk_alloc ?_ _)); exact BK235.out) hb); have n2_ := Aside0.mk (blk_below (g := gb256) (o := .cells #[.int .i64 ((rd_T33 l1_3 x60_1).f0), .int .i64 ((rd_T33 l1_3 x60_1).f1), .string ((rd_T33 l1_3 x60_1).f2), .int .i64 ((rd_T33 l1_3 x60_1).f3), .int .i64 ((rd_T33 l1_3 x60_1).f4)] 33 (0, 0)) (by (with_reducible repeat (first | refine blk_drewN ?_ _ | refine blk_drew ?_ | refine blk_alloc ?_ _)); refine blk_put (cs := #[.int .i64 ((rd_T33 l1_3 x60_1).f0), .int .i64 ((rd_T33 l1_3 x60_1).f1), .string ((rd_T33 l1_3 x60_1).f2), .int .i64 ((rd_T33 l1_3 x60_1).f3), .int .i64 0]) ?_ 4 _ rfl; (with_reducible repeat (first | refine blk_drewN ?_ _ | refine blk_drew ?_ | refine blk_alloc ?_ _)); refine blk_put (cs := #[.int .i64 ((rd_T33 l1_3 x60_1).f0), .int .i64 ((rd_T33 l1_3 x60_1).f1), .string ((rd_T33 l1_3 x60_1).f2), .int .i64 0, .int .i64 0]) ?_ 3 _ rfl; (with_reducible repeat (first | refine blk_drewN ?_ _ | refine blk_drew ?_ | refine blk_alloc ?_ _)); refine blk_put (cs := #[.int .i64 ((rd_T33 l1_3 x60_1).f0), .int .i64 ((rd_T33 l1_3 x60_1).f1), .string (⟨#[]⟩ : ByteArray), .int .i64 0, .int .i64 0]) ?_ 2 _ rfl; (with_reducible repeat (first | refine blk_drewN ?_ _ | refine blk_drew ?_ | refine blk_alloc ?_ _)); refine blk_put (cs := #[.int .i64 ((rd_T33 l1_3 x60_1).f0), .int .i64 0, .string (⟨#[]⟩ : ByteArray), .int .i64 0, .int .i64 0]) ?_ 1 _ rfl; (with_reducible repeat (first | refine blk_drewN ?_ _ | refine blk_drew ?_ | refine blk_alloc ?_ _)); refine blk_put (cs := #[.int .i64 0, .int .i64 0, .string (⟨#[]⟩ : ByteArray), .int .i64 0, .int .i64 0]) ?_ 0 _ rfl; (with_reducible repeat (first | refine blk_drewN ?_ _ | refine blk_drew ?_ | refine blk_alloc ?_ _)); exact BK256.out) hb); have n3_ := hB HB hb; clear HO_12; clear BK235; clear BK256; clear HB; have HO_12 := n0_; have BK235 := n1_; have BK256 := n2_; have HB := n3_; clear n0_ n1_ n2_ n3_; clear hb))
            go_ret2
            exact ⟨_, by first | rfl | (simp [errW_none, errW_some] <;> rfl) | (simp [*, errW_none, errW_some] <;> rfl) | (simp (disch := first | assumption | omega) only [Int.tdiv_eq_ediv_of_nonneg, Int.tmod_eq_emod_of_nonneg]; rfl), by first | exact Kd.R_nil _ _ _ _ _ | exact Kd.N_nil _ _ _ _ _ | exact Kd.V_nil _ _ _ _ _ | exact Kd.Q_nil _ _ _ _ _ | exact Kd.S_nil _ _ _ _ _, aH HB⟩
         ·rw [if_neg c24] at H
          exact absurd H (by simp)
        ·rw [if_neg c23] at H
         exact absurd H (by simp)
       ·rw [if_neg c22] at H
        have c22b0 : decide (x60_1 < (l1_3.length : Int)) = false := decide_eq_false c22
        clear c22
        replace H := Option.bind_eq_some_iff.mp H
        obtain ⟨⟨t251, t254⟩, A560, H⟩ := H
        replace H : (some (t251, t254)) = some (r1, r2) := H
        have A56 := Aside0.mk A560
        clear A560
        simp only [Option.some.injEq, Prod.mk.injEq] at H
        obtain ⟨rfl, rfl⟩ := H
        obtain ⟨Ao57, co57, eo57⟩ := Kd.R_slice HO_12.out
        subst eo57
        go_wp2_with (first | ((with_reducible refine gate_callee (f := 34) rfl ?_); refine goA (some 106) Try.func34 #[.slice Ao57 x12_1.length co57] ?_; (with_reducible refine (valuation_checked.calls k1 (fun k_ => some k_ = (.slice Ao57 x12_1.length co57 : Value).ownBlock) (.slice Ao57 x12_1.length co57) x12_1 t251 t254 w _ ?side1 ?side2 A56.out).mono ?_); (case side1 => repeat (first | (with_reducible first | exact HB.out | apply below_alloc | apply pw_below_drewN | apply below_drew1 | refine below_set ?_ GE235.out) | exact HB.out)); (case side2 => exact Kd.R_tight rfl HO_12.out); rintro e w58 ⟨v252, rfl, ho0, hb, hkp⟩; refine ⟨_, rfl, ?_⟩; replace BK235 := Aside0.mk (blk_kept (aB BK235) hkp (fun hs_ => (fun e_ => (Kd.R_ne HO_12.out BK235.out (by decide)) e_) hs_)); have HO253 := Aside0.mk (Kd.R_mono (ok' := fun k_ => True) ho0 (fun k_ hk_ => trivial)); replace HB := Aside0.mk (hb); clear HO_12; clear hb hkp ho0))
        go_ret2
        exact ⟨_, by first | rfl | (simp [errW_none, errW_some] <;> rfl) | (simp [*, errW_none, errW_some] <;> rfl) | (simp (disch := first | assumption | omega) only [Int.tdiv_eq_ediv_of_nonneg, Int.tmod_eq_emod_of_nonneg]; rfl), aR HO253, aH HB⟩
    ·rw [if_neg c9] at H
     have c9b0 : (t246 == 0) = false := beq_eq_false_iff_ne.mpr c9
     have c9b1 : (t246 != 0) = true := bne_iff_ne.mpr c9
     simp only [Option.some.injEq, Prod.mk.injEq] at H
     obtain ⟨rfl, rfl⟩ := H
     go_enter Try.func16, Try.ntmps16
     go_wp2_with (first | ((with_reducible refine gate_dst (N := 3) rfl ?_); refine boxA (N := 3) (cs := #[.string a1_0, .int .i64 a1_1, .slice A1_2 l1_2.length c1_2, .slice A1_3 l1_3.length c1_3]) (t := 25) ?_; intro gb235 hg w59 hbox hb; have n0_ := hB HB hb; have n1_ := Aside0.mk (hbox); have n2_ := gW hg HB; have n3_ := gW hg HB; clear HB; have HB := n0_; have BK235 := n1_; have GW235 := n2_; have GE235 := n3_; clear n0_ n1_ n2_ n3_; clear hb hbox hg; have hcz60_0 : w59.cell? ⟨gb235, 0, none⟩ = some (.string a1_0) := lc BK235 0; have hcz60_1 : w59.cell? ⟨gb235, 1, none⟩ = some (.int .i64 a1_1) := lc BK235 1; have hcz60_2 : w59.cell? ⟨gb235, 2, none⟩ = some (.slice A1_2 l1_2.length c1_2) := lc BK235 2; have hcz60_3 : w59.cell? ⟨gb235, 3, none⟩ = some (.slice A1_3 l1_3.length c1_3) := lc BK235 3; have hfz60_0 := fz BK235 0; have hfz60_1 := fz BK235 1; have hfz60_2 := fz BK235 2; have hfz60_3 := fz BK235 3) | ((with_reducible refine gate_callee (f := 11) rfl ?_); refine goA (some 21) Try.func11 #[.agg #[.string a1_0, .int .i64 a1_1, .slice A1_2 l1_2.length c1_2, .slice A1_3 l1_3.length c1_3]] ?_; (with_reducible refine (valuation_Validate.calls k a1_0 a1_1 _ _ l1_2 _ _ l1_3 t236 _ ?side1 ?side2 ?side3 ?side4 A3.out).mono ?_); (case side1 => repeat (first | exact (Kd.C_below HR1_2.out HB.out) | (with_reducible refine Kd.C_alloc ?_ _) | (with_reducible refine Kd.C_drewN ?_ _) | (with_reducible refine Kd.C_drew ?_))); (case side2 => exact HC1_2.out); (case side3 => repeat (first | exact (Kd.C_below HR1_3.out HB.out) | (with_reducible refine Kd.C_alloc ?_ _) | (with_reducible refine Kd.C_drewN ?_ _) | (with_reducible refine Kd.C_drew ?_))); (case side4 => exact HC1_3.out); rintro e w61 ⟨rfl, hb⟩; refine ⟨_, rfl, ?_⟩; have n0_ := bB BK235 hb; have n1_ := hB HB hb; clear BK235; clear HB; have BK235 := n0_; have HB := n1_; clear n0_ n1_; have hcz62_0 : w61.cell? ⟨gb235, 0, none⟩ = some (.string a1_0) := lc BK235 0; have hcz62_1 : w61.cell? ⟨gb235, 1, none⟩ = some (.int .i64 a1_1) := lc BK235 1; have hcz62_2 : w61.cell? ⟨gb235, 2, none⟩ = some (.slice A1_2 l1_2.length c1_2) := lc BK235 2; have hcz62_3 : w61.cell? ⟨gb235, 3, none⟩ = some (.slice A1_3 l1_3.length c1_3) := lc BK235 3; have hfz62_0 := fz BK235 0; have hfz62_1 := fz BK235 1; have hfz62_2 := fz BK235 2; have hfz62_3 := fz BK235 3; clear hb) | ((with_reducible refine gate_callee (f := 29) rfl ?_); refine goA (some 27) Try.func29 #[.agg #[.string a1_0, .int .i64 a1_1, .slice A1_2 l1_2.length c1_2, .slice A1_3 l1_3.length c1_3]] ?_; (with_reducible refine (valuation_weights.calls a1_0 a1_1 _ _ l1_2 _ _ l1_3 t237 t240 _ ?side1 ?side2 ?side3 ?side4 A5.out).mono ?_); (case side1 => repeat (first | exact (Kd.C_below HR1_2.out HB.out) | (with_reducible refine Kd.C_alloc ?_ _) | (with_reducible refine Kd.C_drewN ?_ _) | (with_reducible refine Kd.C_drew ?_))); (case side2 => exact HC1_2.out); (case side3 => repeat (first | exact (Kd.C_below HR1_3.out HB.out) | (with_reducible refine Kd.C_alloc ?_ _) | (with_reducible refine Kd.C_drewN ?_ _) | (with_reducible refine Kd.C_drew ?_))); (case side4 => exact HC1_3.out); rintro e w63 ⟨v238, v241, rfl, ho0, ho1, hb⟩; refine ⟨_, rfl, ?_⟩; have n0_ := rL ho0 HB; have n1_ := rL ho1 HB; have n2_ := bB BK235 hb; have n3_ := hB HB hb; clear BK235; clear HB; have HO239 := n0_; have HO242 := n1_; have BK235 := n2_; have HB := n3_; clear n0_ n1_ n2_ n3_; obtain ⟨Ao64, co64, eo64⟩ := Kd.R_slice HO239.out; subst eo64; clear hb ho0 ho1) | ((with_reducible refine gate_callee (f := 30) rfl ?_); refine goA (some 32) Try.func30 #[.slice Ao64 t237.length co64] ?_; (with_reducible refine (money_Sum.calls k _ _ t237 t243 t244 _ ?side1 ?side2 A6.out).mono ?_); (case side1 => repeat (first | exact (Kd.R_reads' HO239.out).2.2 | (with_reducible refine Kd.C_alloc ?_ _) | (with_reducible refine Kd.C_drewN ?_ _) | (with_reducible refine Kd.C_drew ?_))); (case side2 => exact (Kd.R_reads' HO239.out).2.1); rintro e w65 ⟨rfl, hb⟩; refine ⟨_, rfl, ?_⟩; have n0_ := rB HO239 hb; have n1_ := rB HO242 hb; have n2_ := bB BK235 hb; have n3_ := hB HB hb; clear HO239; clear HO242; clear BK235; clear HB; have HO239 := n0_; have HO242 := n1_; have BK235 := n2_; have HB := n3_; clear n0_ n1_ n2_ n3_; have hcz66_0 : w65.cell? ⟨gb235, 0, none⟩ = some (.string a1_0) := lc BK235 0; have hcz66_1 : w65.cell? ⟨gb235, 1, none⟩ = some (.int .i64 a1_1) := lc BK235 1; have hcz66_2 : w65.cell? ⟨gb235, 2, none⟩ = some (.slice A1_2 l1_2.length c1_2) := lc BK235 2; have hcz66_3 : w65.cell? ⟨gb235, 3, none⟩ = some (.slice A1_3 l1_3.length c1_3) := lc BK235 3; have hfz66_0 := fz BK235 0; have hfz66_1 := fz BK235 1; have hfz66_2 := fz BK235 2; have hfz66_3 := fz BK235 3; clear hb) | ((with_reducible refine gate_callee (f := 21) rfl ?_); refine goA (some 45) Try.func21 #[.slice A0 l0.length c0, .int .i64 t243, .string a1_0, .int .i64 a1_1, .int .i64 2] ?_; (with_reducible refine (currency_Convert.calls k _ _ l0 t243 a1_0 a1_1 2 t245 t246 _ ?side1 ?side2 A8.out).mono ?_); (case side1 => repeat (first | exact (Kd.C_below HR0.out HB.out) | (with_reducible refine Kd.C_alloc ?_ _) | (with_reducible refine Kd.C_drewN ?_ _) | (with_reducible refine Kd.C_drew ?_))); (case side2 => exact HC0.out); rintro e w67 ⟨rfl, hb⟩; refine ⟨_, rfl, ?_⟩; have n0_ := rB HO239 hb; have n1_ := rB HO242 hb; have n2_ := bB BK235 hb; have n3_ := hB HB hb; clear HO239; clear HO242; clear BK235; clear HB; have HO239 := n0_; have HO242 := n1_; have BK235 := n2_; have HB := n3_; clear n0_ n1_ n2_ n3_; clear hb))
     go_ret2
     exact ⟨_, by first | rfl | (simp [errW_none, errW_some] <;> rfl) | (simp [*, errW_none, errW_some] <;> rfl) | (simp (disch := first | assumption | omega) only [Int.tdiv_eq_ediv_of_nonneg, Int.tmod_eq_emod_of_nonneg]; rfl), by first | exact Kd.R_nil _ _ _ _ _ | exact Kd.N_nil _ _ _ _ _ | exact Kd.V_nil _ _ _ _ _ | exact Kd.Q_nil _ _ _ _ _ | exact Kd.S_nil _ _ _ _ _, aH HB⟩
   ·rw [if_neg c7] at H
    have c7b0 : (t244 == 0) = false := beq_eq_false_iff_ne.mpr c7
    have c7b1 : (t244 != 0) = true := bne_iff_ne.mpr c7
    simp only [Option.some.injEq, Prod.mk.injEq] at H
    obtain ⟨rfl, rfl⟩ := H
    go_enter Try.func16, Try.ntmps16
    go_wp2_with (first | ((with_reducible refine gate_dst (N := 3) rfl ?_); refine boxA (N := 3) (cs := #[.string a1_0, .int .i64 a1_1, .slice A1_2 l1_2.length c1_2, .slice A1_3 l1_3.length c1_3]) (t := 25) ?_; intro gb235 hg w68 hbox hb; have n0_ := hB HB hb; have n1_ := Aside0.mk (hbox); have n2_ := gW hg HB; have n3_ := gW hg HB; clear HB; have HB := n0_; have BK235 := n1_; have GW235 := n2_; have GE235 := n3_; clear n0_ n1_ n2_ n3_; clear hb hbox hg; have hcz69_0 : w68.cell? ⟨gb235, 0, none⟩ = some (.string a1_0) := lc BK235 0; have hcz69_1 : w68.cell? ⟨gb235, 1, none⟩ = some (.int .i64 a1_1) := lc BK235 1; have hcz69_2 : w68.cell? ⟨gb235, 2, none⟩ = some (.slice A1_2 l1_2.length c1_2) := lc BK235 2; have hcz69_3 : w68.cell? ⟨gb235, 3, none⟩ = some (.slice A1_3 l1_3.length c1_3) := lc BK235 3; have hfz69_0 := fz BK235 0; have hfz69_1 := fz BK235 1; have hfz69_2 := fz BK235 2; have hfz69_3 := fz BK235 3) | ((with_reducible refine gate_callee (f := 11) rfl ?_); refine goA (some 21) Try.func11 #[.agg #[.string a1_0, .int .i64 a1_1, .slice A1_2 l1_2.length c1_2, .slice A1_3 l1_3.length c1_3]] ?_; (with_reducible refine (valuation_Validate.calls k a1_0 a1_1 _ _ l1_2 _ _ l1_3 t236 _ ?side1 ?side2 ?side3 ?side4 A3.out).mono ?_); (case side1 => repeat (first | exact (Kd.C_below HR1_2.out HB.out) | (with_reducible refine Kd.C_alloc ?_ _) | (with_reducible refine Kd.C_drewN ?_ _) | (with_reducible refine Kd.C_drew ?_))); (case side2 => exact HC1_2.out); (case side3 => repeat (first | exact (Kd.C_below HR1_3.out HB.out) | (with_reducible refine Kd.C_alloc ?_ _) | (with_reducible refine Kd.C_drewN ?_ _) | (with_reducible refine Kd.C_drew ?_))); (case side4 => exact HC1_3.out); rintro e w70 ⟨rfl, hb⟩; refine ⟨_, rfl, ?_⟩; have n0_ := bB BK235 hb; have n1_ := hB HB hb; clear BK235; clear HB; have BK235 := n0_; have HB := n1_; clear n0_ n1_; have hcz71_0 : w70.cell? ⟨gb235, 0, none⟩ = some (.string a1_0) := lc BK235 0; have hcz71_1 : w70.cell? ⟨gb235, 1, none⟩ = some (.int .i64 a1_1) := lc BK235 1; have hcz71_2 : w70.cell? ⟨gb235, 2, none⟩ = some (.slice A1_2 l1_2.length c1_2) := lc BK235 2; have hcz71_3 : w70.cell? ⟨gb235, 3, none⟩ = some (.slice A1_3 l1_3.length c1_3) := lc BK235 3; have hfz71_0 := fz BK235 0; have hfz71_1 := fz BK235 1; have hfz71_2 := fz BK235 2; have hfz71_3 := fz BK235 3; clear hb) | ((with_reducible refine gate_callee (f := 29) rfl ?_); refine goA (some 27) Try.func29 #[.agg #[.string a1_0, .int .i64 a1_1, .slice A1_2 l1_2.length c1_2, .slice A1_3 l1_3.length c1_3]] ?_; (with_reducible refine (valuation_weights.calls a1_0 a1_1 _ _ l1_2 _ _ l1_3 t237 t240 _ ?side1 ?side2 ?side3 ?side4 A5.out).mono ?_); (case side1 => repeat (first | exact (Kd.C_below HR1_2.out HB.out) | (with_reducible refine Kd.C_alloc ?_ _) | (with_reducible refine Kd.C_drewN ?_ _) | (with_reducible refine Kd.C_drew ?_))); (case side2 => exact HC1_2.out); (case side3 => repeat (first | exact (Kd.C_below HR1_3.out HB.out) | (with_reducible refine Kd.C_alloc ?_ _) | (with_reducible refine Kd.C_drewN ?_ _) | (with_reducible refine Kd.C_drew ?_))); (case side4 => exact HC1_3.out); rintro e w72 ⟨v238, v241, rfl, ho0, ho1, hb⟩; refine ⟨_, rfl, ?_⟩; have n0_ := rL ho0 HB; have n1_ := rL ho1 HB; have n2_ := bB BK235 hb; have n3_ := hB HB hb; clear BK235; clear HB; have HO239 := n0_; have HO242 := n1_; have BK235 := n2_; have HB := n3_; clear n0_ n1_ n2_ n3_; obtain ⟨Ao73, co73, eo73⟩ := Kd.R_slice HO239.out; subst eo73; clear hb ho0 ho1) | ((with_reducible refine gate_callee (f := 30) rfl ?_); refine goA (some 32) Try.func30 #[.slice Ao73 t237.length co73] ?_; (with_reducible refine (money_Sum.calls k _ _ t237 t243 t244 _ ?side1 ?side2 A6.out).mono ?_); (case side1 => repeat (first | exact (Kd.R_reads' HO239.out).2.2 | (with_reducible refine Kd.C_alloc ?_ _) | (with_reducible refine Kd.C_drewN ?_ _) | (with_reducible refine Kd.C_drew ?_))); (case side2 => exact (Kd.R_reads' HO239.out).2.1); rintro e w74 ⟨rfl, hb⟩; refine ⟨_, rfl, ?_⟩; have n0_ := rB HO239 hb; have n1_ := rB HO242 hb; have n2_ := bB BK235 hb; have n3_ := hB HB hb; clear HO239; clear HO242; clear BK235; clear HB; have HO239 := n0_; have HO242 := n1_; have BK235 := n2_; have HB := n3_; clear n0_ n1_ n2_ n3_; clear hb))
    go_ret2
    exact ⟨_, by first | rfl | (simp [errW_none, errW_some] <;> rfl) | (simp [*, errW_none, errW_some] <;> rfl) | (simp (disch := first | assumption | omega) only [Int.tdiv_eq_ediv_of_nonneg, Int.tmod_eq_emod_of_nonneg]; rfl), by first | exact Kd.R_nil _ _ _ _ _ | exact Kd.N_nil _ _ _ _ _ | exact Kd.V_nil _ _ _ _ _ | exact Kd.Q_nil _ _ _ _ _ | exact Kd.S_nil _ _ _ _ _, aH HB⟩
  ·rw [if_neg c4] at H
   have c4b0 : (t236 == 0) = false := beq_eq_false_iff_ne.mpr c4
   have c4b1 : (t236 != 0) = true := bne_iff_ne.mpr c4
   simp only [Option.some.injEq, Prod.mk.injEq] at H
   obtain ⟨rfl, rfl⟩ := H
   go_enter Try.func16, Try.ntmps16
   go_wp2_with (first | ((with_reducible refine gate_dst (N := 3) rfl ?_); refine boxA (N := 3) (cs := #[.string a1_0, .int .i64 a1_1, .slice A1_2 l1_2.length c1_2, .slice A1_3 l1_3.length c1_3]) (t := 25) ?_; intro gb235 hg w75 hbox hb; have n0_ := hB HB hb; have n1_ := Aside0.mk (hbox); have n2_ := gW hg HB; have n3_ := gW hg HB; clear HB; have HB := n0_; have BK235 := n1_; have GW235 := n2_; have GE235 := n3_; clear n0_ n1_ n2_ n3_; clear hb hbox hg; have hcz76_0 : w75.cell? ⟨gb235, 0, none⟩ = some (.string a1_0) := lc BK235 0; have hcz76_1 : w75.cell? ⟨gb235, 1, none⟩ = some (.int .i64 a1_1) := lc BK235 1; have hcz76_2 : w75.cell? ⟨gb235, 2, none⟩ = some (.slice A1_2 l1_2.length c1_2) := lc BK235 2; have hcz76_3 : w75.cell? ⟨gb235, 3, none⟩ = some (.slice A1_3 l1_3.length c1_3) := lc BK235 3; have hfz76_0 := fz BK235 0; have hfz76_1 := fz BK235 1; have hfz76_2 := fz BK235 2; have hfz76_3 := fz BK235 3) | ((with_reducible refine gate_callee (f := 11) rfl ?_); refine goA (some 21) Try.func11 #[.agg #[.string a1_0, .int .i64 a1_1, .slice A1_2 l1_2.length c1_2, .slice A1_3 l1_3.length c1_3]] ?_; (with_reducible refine (valuation_Validate.calls k a1_0 a1_1 _ _ l1_2 _ _ l1_3 t236 _ ?side1 ?side2 ?side3 ?side4 A3.out).mono ?_); (case side1 => repeat (first | exact (Kd.C_below HR1_2.out HB.out) | (with_reducible refine Kd.C_alloc ?_ _) | (with_reducible refine Kd.C_drewN ?_ _) | (with_reducible refine Kd.C_drew ?_))); (case side2 => exact HC1_2.out); (case side3 => repeat (first | exact (Kd.C_below HR1_3.out HB.out) | (with_reducible refine Kd.C_alloc ?_ _) | (with_reducible refine Kd.C_drewN ?_ _) | (with_reducible refine Kd.C_drew ?_))); (case side4 => exact HC1_3.out); rintro e w77 ⟨rfl, hb⟩; refine ⟨_, rfl, ?_⟩; have n0_ := bB BK235 hb; have n1_ := hB HB hb; clear BK235; clear HB; have BK235 := n0_; have HB := n1_; clear n0_ n1_; clear hb))
   go_ret2
   exact ⟨_, by first | rfl | (simp [errW_none, errW_some] <;> rfl) | (simp [*, errW_none, errW_some] <;> rfl) | (simp (disch := first | assumption | omega) only [Int.tdiv_eq_ediv_of_nonneg, Int.tmod_eq_emod_of_nonneg]; rfl), by first | exact Kd.R_nil _ _ _ _ _ | exact Kd.N_nil _ _ _ _ _ | exact Kd.V_nil _ _ _ _ _ | exact Kd.Q_nil _ _ _ _ _ | exact Kd.S_nil _ _ _ _ _, aH HB⟩

end Go.Proofs.Yteoieencagcgdaa.PX
end
section
namespace Go.Proofs.Yteoieencagcgdaa.PX
open Go.RowKit Go.Proofs.YteoieencagcgdaaW.PrintWords Go.Proofs.YteoieencagcgdaaW.PrintLast Go.Proofs.YteoieencagcgdaaW.PrintMore
attribute [local go_sem] max2_int min2_int max_two min_two max_three min_three max_four min_four
set_option linter.unusedVariables false
set_option linter.unusedSimpArgs false

def valuation_Total.f (k : Nat) (l0 : List (S61)) (a1_0 : ByteArray) (a1_1 : Int) (l1_2 : List (S35)) (l1_3 : List (S33)) : Option (Int × Int) := (valuation_Values.f k l0 a1_0 a1_1 l1_2 l1_3).bind fun bt268 => (if bt268.2 = 0 then ((money_Sum.f k bt268.1).bind fun bt272 => (some (bt272.1, bt272.2))) else (some (0, bt268.2)))
set_option maxHeartbeats 8000000 in
set_option maxRecDepth 100000 in
theorem valuation_Total.calls (k : Nat) (A0 : Option Addr) (c0 : Nat) (l0 : List (S61)) (a1_0 : ByteArray) (a1_1 : Int) (A1_2 : Option Addr) (c1_2 : Nat) (l1_2 : List (S35)) (A1_3 : Option Addr) (c1_3 : Nat) (l1_3 : List (S33)) (r1 : Int) (r2 : Int) (w : World) (hr0 : Kd.C k61 w A0 l0.length l0) (hc0 : l0.length ≤ c0) (hr1_2 : Kd.C k35 w A1_2 l1_2.length l1_2) (hc1_2 : l1_2.length ≤ c1_2) (hr1_3 : Kd.C k33 w A1_3 l1_3.length l1_3) (hc1_3 : l1_3.length ≤ c1_3) (h : valuation_Total.f k l0 a1_0 a1_1 l1_2 l1_3 = some (r1, r2)) :
   Calls Try.prog 18 #[.slice A0 l0.length c0, .agg #[.string a1_0, .int .i64 a1_1, .slice A1_2 l1_2.length c1_2, .slice A1_3 l1_3.length c1_3]] w fun e w' => e = .returned (.tuple #[.int .i64 r1, .int .i64 r2]) ∧ Below w.heap.size w w' := by
  have hu25 := Try.underlying25
  have HR0 := Aside0.mk hr0
  have HC0 := Aside0.mk hc0
  clear hr0 hc0
  have HR1_2 := Aside0.mk hr1_2
  have HC1_2 := Aside0.mk hc1_2
  clear hr1_2 hc1_2
  have HR1_3 := Aside0.mk hr1_3
  have HC1_3 := Aside0.mk hc1_3
  clear hr1_3 hc1_3
  have HB := Aside0.mk (Below.refl w.heap.size w)
  have H : ((valuation_Values.f k l0 a1_0 a1_1 l1_2 l1_3).bind fun bt268 => (if bt268.2 = 0 then ((money_Sum.f k bt268.1).bind fun bt272 => (some (bt272.1, bt272.2))) else (some (0, bt268.2)))) = some (r1, r2) := h
  clear h
  replace H := Option.bind_eq_some_iff.mp H
  obtain ⟨⟨t268, t271⟩, A30, H⟩ := H
  replace H : (if t271 = 0 then ((money_Sum.f k t268).bind fun bt272 => (some (bt272.1, bt272.2))) else (some (0, t271))) = some (r1, r2) := H
  have A3 := Aside0.mk A30
  clear A30
  by_cases c4 : t271 = 0
  ·rw [if_pos c4] at H
   have c4b0 : (t271 == 0) = true := beq_iff_eq.mpr c4
   have c4b1 : (t271 != 0) = false := bne_eq_false_iff_eq.mpr c4
   clear c4
   replace H := Option.bind_eq_some_iff.mp H
   obtain ⟨⟨t272, t273⟩, A50, H⟩ := H
   replace H : (some (t272, t273)) = some (r1, r2) := H
   have A5 := Aside0.mk A50
   clear A50
   simp only [Option.some.injEq, Prod.mk.injEq] at H
   obtain ⟨rfl, rfl⟩ := H
   go_enter Try.func18, Try.ntmps18
   go_wp2_with (first | ((with_reducible refine gate_dst (N := 3) rfl ?_); refine boxA (N := 3) (cs := #[.string a1_0, .int .i64 a1_1, .slice A1_2 l1_2.length c1_2, .slice A1_3 l1_3.length c1_3]) (t := 25) ?_; intro gb267 hg w6 hbox hb; have n0_ := hB HB hb; have n1_ := Aside0.mk (hbox); have n2_ := gW hg HB; have n3_ := gW hg HB; clear HB; have HB := n0_; have BK267 := n1_; have GW267 := n2_; have GE267 := n3_; clear n0_ n1_ n2_ n3_; clear hb hbox hg; have hcz7_0 : w6.cell? ⟨gb267, 0, none⟩ = some (.string a1_0) := lc BK267 0; have hcz7_1 : w6.cell? ⟨gb267, 1, none⟩ = some (.int .i64 a1_1) := lc BK267 1; have hcz7_2 : w6.cell? ⟨gb267, 2, none⟩ = some (.slice A1_2 l1_2.length c1_2) := lc BK267 2; have hcz7_3 : w6.cell? ⟨gb267, 3, none⟩ = some (.slice A1_3 l1_3.length c1_3) := lc BK267 3; have hfz7_0 := fz BK267 0; have hfz7_1 := fz BK267 1; have hfz7_2 := fz BK267 2; have hfz7_3 := fz BK267 3) | ((with_reducible refine gate_callee (f := 16) rfl ?_); refine goA (some 11) Try.func16 #[.slice A0 l0.length c0, .agg #[.string a1_0, .int .i64 a1_1, .slice A1_2 l1_2.length c1_2, .slice A1_3 l1_3.length c1_3]] ?_; (with_reducible refine (valuation_Values.calls k _ _ l0 a1_0 a1_1 _ _ l1_2 _ _ l1_3 t268 t271 _ ?side1 ?side2 ?side3 ?side4 ?side5 ?side6 A3.out).mono ?_); (case side1 => repeat (first | exact (Kd.C_below HR0.out HB.out) | (with_reducible refine Kd.C_alloc ?_ _) | (with_reducible refine Kd.C_drewN ?_ _) | (with_reducible refine Kd.C_drew ?_))); (case side2 => exact HC0.out); (case side3 => repeat (first | exact (Kd.C_below HR1_2.out HB.out) | (with_reducible refine Kd.C_alloc ?_ _) | (with_reducible refine Kd.C_drewN ?_ _) | (with_reducible refine Kd.C_drew ?_))); (case side4 => exact HC1_2.out); (case side5 => repeat (first | exact (Kd.C_below HR1_3.out HB.out) | (with_reducible refine Kd.C_alloc ?_ _) | (with_reducible refine Kd.C_drewN ?_ _) | (with_reducible refine Kd.C_drew ?_))); (case side6 => exact HC1_3.out); rintro e w8 ⟨v269, rfl, ho0, hb⟩; refine ⟨_, rfl, ?_⟩; have n0_ := rL ho0 HB; have n1_ := bB BK267 hb; have n2_ := hB HB hb; clear BK267; clear HB; have HO270 := n0_; have BK267 := n1_; have HB := n2_; clear n0_ n1_ n2_; obtain ⟨Ao9, co9, eo9⟩ := Kd.R_slice HO270.out; subst eo9; clear hb ho0) | ((with_reducible refine gate_callee (f := 30) rfl ?_); refine goA (some 18) Try.func30 #[.slice Ao9 t268.length co9] ?_; (with_reducible refine (money_Sum.calls k _ _ t268 t272 t273 _ ?side1 ?side2 A5.out).mono ?_); (case side1 => repeat (first | exact (Kd.R_reads' HO270.out).2.2 | (with_reducible refine Kd.C_alloc ?_ _) | (with_reducible refine Kd.C_drewN ?_ _) | (with_reducible refine Kd.C_drew ?_))); (case side2 => exact (Kd.R_reads' HO270.out).2.1); rintro e w10 ⟨rfl, hb⟩; refine ⟨_, rfl, ?_⟩; have n0_ := rB HO270 hb; have n1_ := bB BK267 hb; have n2_ := hB HB hb; clear HO270; clear BK267; clear HB; have HO270 := n0_; have BK267 := n1_; have HB := n2_; clear n0_ n1_ n2_; clear hb))
   go_ret2
   exact ⟨by first | rfl | (simp [errW_none, errW_some] <;> rfl) | (simp [*, errW_none, errW_some] <;> rfl) | (simp (disch := first | assumption | omega) only [Int.tdiv_eq_ediv_of_nonneg, Int.tmod_eq_emod_of_nonneg]; rfl), aH HB⟩
  ·rw [if_neg c4] at H
   have c4b0 : (t271 == 0) = false := beq_eq_false_iff_ne.mpr c4
   have c4b1 : (t271 != 0) = true := bne_iff_ne.mpr c4
   simp only [Option.some.injEq, Prod.mk.injEq] at H
   obtain ⟨rfl, rfl⟩ := H
   go_enter Try.func18, Try.ntmps18
   go_wp2_with (first | ((with_reducible refine gate_dst (N := 3) rfl ?_); refine boxA (N := 3) (cs := #[.string a1_0, .int .i64 a1_1, .slice A1_2 l1_2.length c1_2, .slice A1_3 l1_3.length c1_3]) (t := 25) ?_; intro gb267 hg w11 hbox hb; have n0_ := hB HB hb; have n1_ := Aside0.mk (hbox); have n2_ := gW hg HB; have n3_ := gW hg HB; clear HB; have HB := n0_; have BK267 := n1_; have GW267 := n2_; have GE267 := n3_; clear n0_ n1_ n2_ n3_; clear hb hbox hg; have hcz12_0 : w11.cell? ⟨gb267, 0, none⟩ = some (.string a1_0) := lc BK267 0; have hcz12_1 : w11.cell? ⟨gb267, 1, none⟩ = some (.int .i64 a1_1) := lc BK267 1; have hcz12_2 : w11.cell? ⟨gb267, 2, none⟩ = some (.slice A1_2 l1_2.length c1_2) := lc BK267 2; have hcz12_3 : w11.cell? ⟨gb267, 3, none⟩ = some (.slice A1_3 l1_3.length c1_3) := lc BK267 3; have hfz12_0 := fz BK267 0; have hfz12_1 := fz BK267 1; have hfz12_2 := fz BK267 2; have hfz12_3 := fz BK267 3) | ((with_reducible refine gate_callee (f := 16) rfl ?_); refine goA (some 11) Try.func16 #[.slice A0 l0.length c0, .agg #[.string a1_0, .int .i64 a1_1, .slice A1_2 l1_2.length c1_2, .slice A1_3 l1_3.length c1_3]] ?_; (with_reducible refine (valuation_Values.calls k _ _ l0 a1_0 a1_1 _ _ l1_2 _ _ l1_3 t268 t271 _ ?side1 ?side2 ?side3 ?side4 ?side5 ?side6 A3.out).mono ?_); (case side1 => repeat (first | exact (Kd.C_below HR0.out HB.out) | (with_reducible refine Kd.C_alloc ?_ _) | (with_reducible refine Kd.C_drewN ?_ _) | (with_reducible refine Kd.C_drew ?_))); (case side2 => exact HC0.out); (case side3 => repeat (first | exact (Kd.C_below HR1_2.out HB.out) | (with_reducible refine Kd.C_alloc ?_ _) | (with_reducible refine Kd.C_drewN ?_ _) | (with_reducible refine Kd.C_drew ?_))); (case side4 => exact HC1_2.out); (case side5 => repeat (first | exact (Kd.C_below HR1_3.out HB.out) | (with_reducible refine Kd.C_alloc ?_ _) | (with_reducible refine Kd.C_drewN ?_ _) | (with_reducible refine Kd.C_drew ?_))); (case side6 => exact HC1_3.out); rintro e w13 ⟨v269, rfl, ho0, hb⟩; refine ⟨_, rfl, ?_⟩; have n0_ := rL ho0 HB; have n1_ := bB BK267 hb; have n2_ := hB HB hb; clear BK267; clear HB; have HO270 := n0_; have BK267 := n1_; have HB := n2_; clear n0_ n1_ n2_; clear hb ho0))
   go_ret2
   exact ⟨by first | rfl | (simp [errW_none, errW_some] <;> rfl) | (simp [*, errW_none, errW_some] <;> rfl) | (simp (disch := first | assumption | omega) only [Int.tdiv_eq_ediv_of_nonneg, Int.tmod_eq_emod_of_nonneg]; rfl), aH HB⟩

end Go.Proofs.Yteoieencagcgdaa.PX
end
section
namespace Go.Proofs.Yteoieencagcgdaa.PX
open Go.RowKit Go.Proofs.YteoieencagcgdaaW.PrintWords Go.Proofs.YteoieencagcgdaaW.PrintLast Go.Proofs.YteoieencagcgdaaW.PrintMore
attribute [local go_sem] max2_int min2_int max_two min_two max_three min_three max_four min_four
set_option linter.unusedVariables false
set_option linter.unusedSimpArgs false

def customslaw17_awake.f (k : Nat)  : Option (Bool) := (some (([(⟨100, 0⟩ : S35), (⟨200, 0⟩ : S35)] : List (S35)) : List (S35))).bind fun y276 => ((some (([(⟨1, 10, (⟨#[69, 85, 82]⟩ : ByteArray), 1, 0⟩ : S33)] : List (S33)) : List (S33))).bind fun y279 => ((valuation_Values.f k ([] : List (S61)) (⟨#[69, 85, 82]⟩ : ByteArray) 0 y276 y279).bind fun bt283 => ((valuation_Total.f k ([] : List (S61)) (⟨#[69, 85, 82]⟩ : ByteArray) 0 y276 y279).bind fun bt287 => (if bt283.2 = 0 then (if bt287.2 = 0 then ((customsref02_Same.f k bt283.1 (([103, 207] : List Int))).bind fun t292 => (if t292 = true then (if bt287.1 = 310 then ((valuation_Validate.f k (⟨#[]⟩ : ByteArray) 0 ([] : List (S35)) ([] : List (S33))).bind fun t293 => (some (t293 == 8))) else (some false)) else (some false))) else (some false)) else (some false)))))
set_option maxHeartbeats 8000000 in
set_option maxRecDepth 100000 in
theorem customslaw17_awake.calls (k : Nat)  (r : Bool) (w : World) (h : customslaw17_awake.f k  = some r) (hT : r = true) :
   Calls Try.prog 14 #[] w fun e w' => e = .returned (.bool r) ∧ Below w.heap.size w w' := by
  have hu35 := Try.underlying35
  have hu33 := Try.underlying33
  have hu25 := Try.underlying25
  have HB := Aside0.mk (Below.refl w.heap.size w)
  have H : ((some (([(⟨100, 0⟩ : S35), (⟨200, 0⟩ : S35)] : List (S35)) : List (S35))).bind fun y276 => ((some (([(⟨1, 10, (⟨#[69, 85, 82]⟩ : ByteArray), 1, 0⟩ : S33)] : List (S33)) : List (S33))).bind fun y279 => ((valuation_Values.f k ([] : List (S61)) (⟨#[69, 85, 82]⟩ : ByteArray) 0 y276 y279).bind fun bt283 => ((valuation_Total.f k ([] : List (S61)) (⟨#[69, 85, 82]⟩ : ByteArray) 0 y276 y279).bind fun bt287 => (if bt283.2 = 0 then (if bt287.2 = 0 then ((customsref02_Same.f k bt283.1 (([103, 207] : List Int))).bind fun t292 => (if t292 = true then (if bt287.1 = 310 then ((valuation_Validate.f k (⟨#[]⟩ : ByteArray) 0 ([] : List (S35)) ([] : List (S33))).bind fun t293 => (some (t293 == 8))) else (some false)) else (some false))) else (some false)) else (some false)))))) = some r := h
  clear h
  have HT := Aside0.mk hT
  clear hT
  obtain ⟨y276, hy276⟩ : ∃ y_ : List (S35), y_ = (([(⟨100, 0⟩ : S35), (⟨200, 0⟩ : S35)] : List (S35))) := ⟨_, rfl⟩
  replace H : ((some (([(⟨1, 10, (⟨#[69, 85, 82]⟩ : ByteArray), 1, 0⟩ : S33)] : List (S33)) : List (S33))).bind fun y279 => ((valuation_Values.f k ([] : List (S61)) (⟨#[69, 85, 82]⟩ : ByteArray) 0 y276 y279).bind fun bt283 => ((valuation_Total.f k ([] : List (S61)) (⟨#[69, 85, 82]⟩ : ByteArray) 0 y276 y279).bind fun bt287 => (if bt283.2 = 0 then (if bt287.2 = 0 then ((customsref02_Same.f k bt283.1 (([103, 207] : List Int))).bind fun t292 => (if t292 = true then (if bt287.1 = 310 then ((valuation_Validate.f k (⟨#[]⟩ : ByteArray) 0 ([] : List (S35)) ([] : List (S33))).bind fun t293 => (some (t293 == 8))) else (some false)) else (some false))) else (some false)) else (some false))))) = some r := by first | (rw [hy276]; with_reducible exact H) | (have H2_ := (Option.bind_some _ _).symm.trans H; rw [hy276]; with_reducible exact H2_) | (have H2_ := (Option.bind_some _ _).symm.trans H; with_reducible exact H2_) | with_reducible exact H | (rw [hy276]; exact H) | exact H
  have Ny276 := Aside0.mk hy276
  clear hy276
  obtain ⟨y279, hy279⟩ : ∃ y_ : List (S33), y_ = (([(⟨1, 10, (⟨#[69, 85, 82]⟩ : ByteArray), 1, 0⟩ : S33)] : List (S33))) := ⟨_, rfl⟩
  replace H : ((valuation_Values.f k ([] : List (S61)) (⟨#[69, 85, 82]⟩ : ByteArray) 0 y276 y279).bind fun bt283 => ((valuation_Total.f k ([] : List (S61)) (⟨#[69, 85, 82]⟩ : ByteArray) 0 y276 y279).bind fun bt287 => (if bt283.2 = 0 then (if bt287.2 = 0 then ((customsref02_Same.f k bt283.1 (([103, 207] : List Int))).bind fun t292 => (if t292 = true then (if bt287.1 = 310 then ((valuation_Validate.f k (⟨#[]⟩ : ByteArray) 0 ([] : List (S35)) ([] : List (S33))).bind fun t293 => (some (t293 == 8))) else (some false)) else (some false))) else (some false)) else (some false)))) = some r := by first | (rw [hy279]; with_reducible exact H) | (have H2_ := (Option.bind_some _ _).symm.trans H; rw [hy279]; with_reducible exact H2_) | (have H2_ := (Option.bind_some _ _).symm.trans H; with_reducible exact H2_) | with_reducible exact H | (rw [hy279]; exact H) | exact H
  have Ny279 := Aside0.mk hy279
  clear hy279
  replace H := Option.bind_eq_some_iff.mp H
  obtain ⟨⟨t283, t286⟩, A10, H⟩ := H
  replace H : ((valuation_Total.f k ([] : List (S61)) (⟨#[69, 85, 82]⟩ : ByteArray) 0 y276 y279).bind fun bt287 => (if t286 = 0 then (if bt287.2 = 0 then ((customsref02_Same.f k t283 (([103, 207] : List Int))).bind fun t292 => (if t292 = true then (if bt287.1 = 310 then ((valuation_Validate.f k (⟨#[]⟩ : ByteArray) 0 ([] : List (S35)) ([] : List (S33))).bind fun t293 => (some (t293 == 8))) else (some false)) else (some false))) else (some false)) else (some false))) = some r := H
  have A1 := Aside0.mk A10
  clear A10
  replace H := Option.bind_eq_some_iff.mp H
  obtain ⟨⟨t287, t288⟩, A20, H⟩ := H
  replace H : (if t286 = 0 then (if t288 = 0 then ((customsref02_Same.f k t283 (([103, 207] : List Int))).bind fun t292 => (if t292 = true then (if t287 = 310 then ((valuation_Validate.f k (⟨#[]⟩ : ByteArray) 0 ([] : List (S35)) ([] : List (S33))).bind fun t293 => (some (t293 == 8))) else (some false)) else (some false))) else (some false)) else (some false)) = some r := H
  have A2 := Aside0.mk A20
  clear A20
  by_cases c3 : t286 = 0
  ·rw [if_pos c3] at H
   have c3b0 : (t286 == 0) = true := beq_iff_eq.mpr c3
   have c3b1 : (t286 != 0) = false := bne_eq_false_iff_eq.mpr c3
   clear c3
   by_cases c4 : t288 = 0
   ·rw [if_pos c4] at H
    have c4b0 : (t288 == 0) = true := beq_iff_eq.mpr c4
    have c4b1 : (t288 != 0) = false := bne_eq_false_iff_eq.mpr c4
    clear c4
    obtain ⟨y289, hy289⟩ : ∃ y_ : List Int, y_ = (([103, 207] : List Int)) := ⟨_, rfl⟩
    replace H : ((customsref02_Same.f k t283 y289).bind fun t292 => (if t292 = true then (if t287 = 310 then ((valuation_Validate.f k (⟨#[]⟩ : ByteArray) 0 ([] : List (S35)) ([] : List (S33))).bind fun t293 => (some (t293 == 8))) else (some false)) else (some false))) = some r := by first | (rw [hy289]; with_reducible exact H) | (have H2_ := (Option.bind_some _ _).symm.trans H; rw [hy289]; with_reducible exact H2_) | (have H2_ := (Option.bind_some _ _).symm.trans H; with_reducible exact H2_) | with_reducible exact H | (rw [hy289]; exact H) | exact H
    have Ny289 := Aside0.mk hy289
    clear hy289
    replace H := Option.bind_eq_some_iff.mp H
    obtain ⟨t292, A50, H⟩ := H
    replace H : (if t292 = true then (if t287 = 310 then ((valuation_Validate.f k (⟨#[]⟩ : ByteArray) 0 ([] : List (S35)) ([] : List (S33))).bind fun t293 => (some (t293 == 8))) else (some false)) else (some false)) = some r := H
    have A5 := Aside0.mk A50
    clear A50
    by_cases c6 : t292 = true
    ·subst c6
     have H1 : (if t287 = 310 then ((valuation_Validate.f k (⟨#[]⟩ : ByteArray) 0 ([] : List (S35)) ([] : List (S33))).bind fun t293 => (some (t293 == 8))) else (some false)) = some r := by rw [if_pos rfl] at H; exact H
     clear H
     have H := H1
     clear H1
     by_cases c7 : t287 = 310
     ·rw [if_pos c7] at H
      have c7b0 : (t287 == 310) = true := beq_iff_eq.mpr c7
      have c7b1 : (t287 != 310) = false := bne_eq_false_iff_eq.mpr c7
      clear c7
      replace H := Option.bind_eq_some_iff.mp H
      obtain ⟨t293, A80, H⟩ := H
      replace H : (some (t293 == 8)) = some r := H
      have A8 := Aside0.mk A80
      clear A80
      obtain rfl := Option.some.inj H
      simp only [Option.some.injEq, Prod.mk.injEq] at H
      obtain ⟨rfl⟩ := H
      go_enter Try.func14, Try.ntmps14
      go_wp2_with (first | ((with_reducible refine gate_dst (N := 8) rfl ?_); (try (refine gate_guard (by rfl) ?_; dsimp only)); refine Kd.R_lit k35 _ 35 ?hg (N := 8) ?hd (xs := ([(⟨100, 0⟩ : S35), (⟨200, 0⟩ : S35)] : List (S35))) (inner := [.int .i64 100, .int .i64 0, .int .i64 200, .int .i64 0]) (ok := fun _ => True) (okp := fun _ => True) ?hr ?hp (fun _ hk => hk) trivial (Below.refl _ _) (Nat.le_refl _) (by simp) ?_; (case hd => rfl); (case hg => rfl); (case hr => first | (go_simp; done) | (go_simp; rfl)); (case hp => exact (Reps.c2 (show Kd.M k35 _ _ _ (⟨100, 0⟩ : S35) [.int .i64 100, .int .i64 0] from (k35_mkM _ _ _ (⟨100, 0⟩ : S35) )) (Reps.c2 (show Kd.M k35 _ _ _ (⟨200, 0⟩ : S35) [.int .i64 200, .int .i64 0] from (k35_mkM _ _ _ (⟨200, 0⟩ : S35) )) (Reps.none _ _)))); intro v277 w9 ho10 hb hg_ hnew_; clear hg_ hnew_; (first | rw [← Ny276.out] at ho10 | (simp only [Int.reduceToNat] at ho10; rw [← Ny276.out] at ho10)); have n0_ := rL ho10 HB; have n1_ := hB HB hb; clear HB; have HO278 := n0_; have HB := n1_; clear n0_ n1_; clear hb ho10) | ((with_reducible refine gate_dst (N := 10) rfl ?_); (try (refine gate_guard (by rfl) ?_; dsimp only)); refine Kd.R_lit k33 _ 33 ?hg (N := 10) ?hd (xs := ([(⟨1, 10, (⟨#[69, 85, 82]⟩ : ByteArray), 1, 0⟩ : S33)] : List (S33))) (inner := [.int .i64 1, .int .i64 10, .string (⟨#[69, 85, 82]⟩ : ByteArray), .int .i64 1, .int .i64 0]) (ok := fun _ => True) (okp := fun _ => True) ?hr ?hp (fun _ hk => hk) trivial (Below.refl _ _) (Nat.le_refl _) (by simp) ?_; (case hd => rfl); (case hg => rfl); (case hr => first | (go_simp; done) | (go_simp; rfl)); (case hp => exact (Reps.c5 (show Kd.M k33 _ _ _ (⟨1, 10, (⟨#[69, 85, 82]⟩ : ByteArray), 1, 0⟩ : S33) [.int .i64 1, .int .i64 10, .string (⟨#[69, 85, 82]⟩ : ByteArray), .int .i64 1, .int .i64 0] from (k33_mkM _ _ _ (⟨1, 10, (⟨#[69, 85, 82]⟩ : ByteArray), 1, 0⟩ : S33) )) (Reps.none _ _))); intro v280 w11 ho12 hb hg_ hnew_; clear hg_ hnew_; (first | rw [← Ny279.out] at ho12 | (simp only [Int.reduceToNat] at ho12; rw [← Ny279.out] at ho12)); have n0_ := rB HO278 hb; have n1_ := rL ho12 HB; have n2_ := hB HB hb; clear HO278; clear HB; have HO278 := n0_; have HO281 := n1_; have HB := n2_; clear n0_ n1_ n2_; clear hb ho12; obtain ⟨Ao13, co13, eo13⟩ := Kd.R_slice HO281.out; subst eo13; obtain ⟨Ao14, co14, eo14⟩ := Kd.R_slice HO278.out; subst eo14) | ((with_reducible refine gate_dst (N := 1) rfl ?_); (try (refine gate_guard (by rfl) ?_; dsimp only)); refine boxA (N := 1) (cs := #[.string (⟨#[]⟩ : ByteArray), .int .i64 0, .slice none 0 0, .slice none 0 0]) (t := 25) ?_; intro gb282 hg w15 hbox hb; have n0_ := rB HO278 hb; have n1_ := rB HO281 hb; have n2_ := hB HB hb; have n3_ := Aside0.mk (hbox); have n4_ := gW hg HB; have n5_ := gW hg HB; clear HO278; clear HO281; clear HB; have HO278 := n0_; have HO281 := n1_; have HB := n2_; have BK282 := n3_; have GW282 := n4_; have GE282 := n5_; clear n0_ n1_ n2_ n3_ n4_ n5_; clear hb hbox hg; have hcz16_0 : w15.cell? ⟨gb282, 0, none⟩ = some (.string (⟨#[]⟩ : ByteArray)) := lc BK282 0; have hcz16_1 : w15.cell? ⟨gb282, 1, none⟩ = some (.int .i64 0) := lc BK282 1; have hcz16_2 : w15.cell? ⟨gb282, 2, none⟩ = some (.slice none 0 0) := lc BK282 2; have hcz16_3 : w15.cell? ⟨gb282, 3, none⟩ = some (.slice none 0 0) := lc BK282 3; have hfz16_0 := fz BK282 0; have hfz16_1 := fz BK282 1; have hfz16_2 := fz BK282 2; have hfz16_3 := fz BK282 3) | ((with_reducible refine gate_callee (f := 16) rfl ?_); refine goA (some 14) Try.func16 #[.slice none 0 0, .agg #[.string (⟨#[69, 85, 82]⟩ : ByteArray), .int .i64 0, .slice Ao14 y276.length co14, .slice Ao13 y279.length co13]] ?_; (refine (valuation_Values.calls k _ _ ([] : List (S61)) (⟨#[69, 85, 82]⟩ : ByteArray) 0 _ _ y276 _ _ y279 t283 t286 _ ?side1 ?side2 ?side3 ?side4 ?side5 ?side6 A1.out).mono ?_); (case side1 => exact Kd.C_nil _ _); (case side2 => exact Nat.le_refl _); (case side3 => refine (Kd.R_reads' (e := 35) (base := w.heap.size) (ok := fun k_ => True) (n := y276.length) (c := co14) ?_).2.2; exact (by (with_reducible repeat (first | apply Kd.R_alloc | apply Kd.R_drewN | apply Kd.R_drew)); exact (Kd.R_mono (Kd.R_far (p := ⟨gb282, 3, none⟩) (Kd.R_far (p := ⟨gb282, 2, none⟩) (Kd.R_far (p := ⟨gb282, 1, none⟩) (Kd.R_far (p := ⟨gb282, 0, none⟩) (Kd.R_types HO278.out BK282.out (by decide)) (fun _ hk => hk.2) (.string (⟨#[69, 85, 82]⟩ : ByteArray))) (fun _ hk => hk.2) (.int .i64 0)) (fun _ hk => hk.2) (.slice Ao14 y276.length co14)) (fun _ hk => hk.2) (.slice Ao13 y279.length co13)) (fun _ h_ => h_.1)))); (case side4 => exact (Kd.R_reads' HO278.out).2.1); (case side5 => refine (Kd.R_reads' (e := 33) (base := w.heap.size) (ok := fun k_ => True) (n := y279.length) (c := co13) ?_).2.2; exact (by (with_reducible repeat (first | apply Kd.R_alloc | apply Kd.R_drewN | apply Kd.R_drew)); exact (Kd.R_mono (Kd.R_far (p := ⟨gb282, 3, none⟩) (Kd.R_far (p := ⟨gb282, 2, none⟩) (Kd.R_far (p := ⟨gb282, 1, none⟩) (Kd.R_far (p := ⟨gb282, 0, none⟩) (Kd.R_types HO281.out BK282.out (by decide)) (fun _ hk => hk.2) (.string (⟨#[69, 85, 82]⟩ : ByteArray))) (fun _ hk => hk.2) (.int .i64 0)) (fun _ hk => hk.2) (.slice Ao14 y276.length co14)) (fun _ hk => hk.2) (.slice Ao13 y279.length co13)) (fun _ h_ => h_.1)))); (case side6 => exact (Kd.R_reads' HO281.out).2.1); rintro e w17 ⟨v284, rfl, ho0, hb⟩; refine ⟨_, rfl, ?_⟩; have n0_ := Aside0.mk (Kd.R_below (by (with_reducible repeat (first | apply Kd.R_alloc | apply Kd.R_drewN | apply Kd.R_drew)); exact (Kd.R_mono (Kd.R_far (p := ⟨gb282, 3, none⟩) (Kd.R_far (p := ⟨gb282, 2, none⟩) (Kd.R_far (p := ⟨gb282, 1, none⟩) (Kd.R_far (p := ⟨gb282, 0, none⟩) (Kd.R_types HO278.out BK282.out (by decide)) (fun _ hk => hk.2) (.string (⟨#[69, 85, 82]⟩ : ByteArray))) (fun _ hk => hk.2) (.int .i64 0)) (fun _ hk => hk.2) (.slice Ao14 y276.length co14)) (fun _ hk => hk.2) (.slice Ao13 y279.length co13)) (fun _ h_ => h_.1))) hb); have n1_ := Aside0.mk (Kd.R_below (by (with_reducible repeat (first | apply Kd.R_alloc | apply Kd.R_drewN | apply Kd.R_drew)); exact (Kd.R_mono (Kd.R_far (p := ⟨gb282, 3, none⟩) (Kd.R_far (p := ⟨gb282, 2, none⟩) (Kd.R_far (p := ⟨gb282, 1, none⟩) (Kd.R_far (p := ⟨gb282, 0, none⟩) (Kd.R_types HO281.out BK282.out (by decide)) (fun _ hk => hk.2) (.string (⟨#[69, 85, 82]⟩ : ByteArray))) (fun _ hk => hk.2) (.int .i64 0)) (fun _ hk => hk.2) (.slice Ao14 y276.length co14)) (fun _ hk => hk.2) (.slice Ao13 y279.length co13)) (fun _ h_ => h_.1))) hb); have n2_ := rL ho0 HB; have n3_ := Aside0.mk (blk_below (g := gb282) (o := .cells #[.string (⟨#[69, 85, 82]⟩ : ByteArray), .int .i64 0, .slice Ao14 y276.length co14, .slice Ao13 y279.length co13] 25 (0, 0)) (by (with_reducible repeat (first | refine blk_drewN ?_ _ | refine blk_drew ?_ | refine blk_alloc ?_ _)); refine blk_put (cs := #[.string (⟨#[69, 85, 82]⟩ : ByteArray), .int .i64 0, .slice Ao14 y276.length co14, .slice none 0 0]) ?_ 3 _ rfl; (with_reducible repeat (first | refine blk_drewN ?_ _ | refine blk_drew ?_ | refine blk_alloc ?_ _)); refine blk_put (cs := #[.string (⟨#[69, 85, 82]⟩ : ByteArray), .int .i64 0, .slice none 0 0, .slice none 0 0]) ?_ 2 _ rfl; (with_reducible repeat (first | refine blk_drewN ?_ _ | refine blk_drew ?_ | refine blk_alloc ?_ _)); refine blk_put (cs := #[.string (⟨#[69, 85, 82]⟩ : ByteArray), .int .i64 0, .slice none 0 0, .slice none 0 0]) ?_ 1 _ rfl; (with_reducible repeat (first | refine blk_drewN ?_ _ | refine blk_drew ?_ | refine blk_alloc ?_ _)); refine blk_put (cs := #[.string (⟨#[]⟩ : ByteArray), .int .i64 0, .slice none 0 0, .slice none 0 0]) ?_ 0 _ rfl; (with_reducible repeat (first | refine blk_drewN ?_ _ | refine blk_drew ?_ | refine blk_alloc ?_ _)); exact BK282.out) hb); have n4_ := hB HB hb; clear HO278; clear HO281; clear BK282; clear HB; have HO278 := n0_; have HO281 := n1_; have HO285 := n2_; have BK282 := n3_; have HB := n4_; clear n0_ n1_ n2_ n3_ n4_; have hcz18_0 : w17.cell? ⟨gb282, 0, none⟩ = some (.string (⟨#[69, 85, 82]⟩ : ByteArray)) := lc BK282 0; have hcz18_1 : w17.cell? ⟨gb282, 1, none⟩ = some (.int .i64 0) := lc BK282 1; have hcz18_2 : w17.cell? ⟨gb282, 2, none⟩ = some (.slice Ao14 y276.length co14) := lc BK282 2; have hcz18_3 : w17.cell? ⟨gb282, 3, none⟩ = some (.slice Ao13 y279.length co13) := lc BK282 3; have hfz18_0 := fz BK282 0; have hfz18_1 := fz BK282 1; have hfz18_2 := fz BK282 2; have hfz18_3 := fz BK282 3; clear hb ho0) | ((with_reducible refine gate_callee (f := 18) rfl ?_); refine goA (some 19) Try.func18 #[.slice none 0 0, .agg #[.string (⟨#[69, 85, 82]⟩ : ByteArray), .int .i64 0, .slice Ao14 y276.length co14, .slice Ao13 y279.length co13]] ?_; (refine (valuation_Total.calls k _ _ ([] : List (S61)) (⟨#[69, 85, 82]⟩ : ByteArray) 0 _ _ y276 _ _ y279 t287 t288 _ ?side1 ?side2 ?side3 ?side4 ?side5 ?side6 A2.out).mono ?_); (case side1 => exact Kd.C_nil _ _); (case side2 => exact Nat.le_refl _); (case side3 => repeat (first | exact (Kd.R_reads' HO278.out).2.2 | (with_reducible refine Kd.C_alloc ?_ _) | (with_reducible refine Kd.C_drewN ?_ _) | (with_reducible refine Kd.C_drew ?_))); (case side4 => exact (Kd.R_reads' HO278.out).2.1); (case side5 => repeat (first | exact (Kd.R_reads' HO281.out).2.2 | (with_reducible refine Kd.C_alloc ?_ _) | (with_reducible refine Kd.C_drewN ?_ _) | (with_reducible refine Kd.C_drew ?_))); (case side6 => exact (Kd.R_reads' HO281.out).2.1); rintro e w19 ⟨rfl, hb⟩; refine ⟨_, rfl, ?_⟩; have n0_ := rB HO278 hb; have n1_ := rB HO281 hb; have n2_ := rB HO285 hb; have n3_ := bB BK282 hb; have n4_ := hB HB hb; clear HO278; clear HO281; clear HO285; clear BK282; clear HB; have HO278 := n0_; have HO281 := n1_; have HO285 := n2_; have BK282 := n3_; have HB := n4_; clear n0_ n1_ n2_ n3_ n4_; clear hb) | ((with_reducible refine gate_dst (N := 30) rfl ?_); (try (refine gate_guard (by rfl) ?_; dsimp only)); refine Kd.R_lit (Kd.int .i64) _ 3 ?hg (N := 30) ?hd (xs := ([103, 207] : List Int)) (inner := [.int .i64 103, .int .i64 207]) (ok := fun _ => True) (okp := fun _ => True) ?hr ?hp (fun _ hk => hk) trivial (Below.refl _ _) (Nat.le_refl _) (by simp) ?_; (case hd => rfl); (case hg => rfl); (case hr => first | (go_simp; done) | (go_simp; rfl)); (case hp => exact (Reps.one (show Kd.M (Kd.int .i64) _ _ _ 103 [.int .i64 103] from rfl) (Reps.one (show Kd.M (Kd.int .i64) _ _ _ 207 [.int .i64 207] from rfl) (Reps.none _ _)))); intro v290 w20 ho21 hb hg_ hnew_; clear hg_ hnew_; (first | rw [← Ny289.out] at ho21 | (simp only [Int.reduceToNat] at ho21; rw [← Ny289.out] at ho21)); have n0_ := rB HO278 hb; have n1_ := rB HO281 hb; have n2_ := Aside0.mk (Kd.R_elder' (aR HO285) (Kd.R_base ho21) hb); have n3_ := Aside0.mk (Kd.R_lower (Kd.R_new' ho21 (Kd.R_lt (aR HO285))) (below_size (aH HB))); have n4_ := bB BK282 hb; have n5_ := hB HB hb; clear HO278; clear HO281; clear HO285; clear BK282; clear HB; have HO278 := n0_; have HO281 := n1_; have HO285 := n2_; have HO291 := n3_; have BK282 := n4_; have HB := n5_; clear n0_ n1_ n2_ n3_ n4_ n5_; clear hb ho21; obtain ⟨Ao22, co22, eo22⟩ := Kd.R_slice HO285.out; subst eo22; obtain ⟨Ao23, co23, eo23⟩ := Kd.R_slice HO291.out; subst eo23) | (go_at_call 20; (with_reducible refine (customsref02_Same.calls k _ _ t283 _ _ y289 true _ ?side1 ?side2 ?side3 ?side4 A5.out).mono ?_); (case side1 => repeat (first | exact (Kd.R_reads' HO285.out).2.2 | (with_reducible refine Kd.C_alloc ?_ _) | (with_reducible refine Kd.C_drewN ?_ _) | (with_reducible refine Kd.C_drew ?_))); (case side2 => exact (Kd.R_reads' HO285.out).2.1); (case side3 => repeat (first | exact (Kd.R_reads' HO291.out).2.2 | (with_reducible refine Kd.C_alloc ?_ _) | (with_reducible refine Kd.C_drewN ?_ _) | (with_reducible refine Kd.C_drew ?_))); (case side4 => exact (Kd.R_reads' HO291.out).2.1); rintro e w' ⟨rfl, ⟨nd, rfl⟩⟩) | (go_at_call 11; (refine (valuation_Validate.calls k (⟨#[]⟩ : ByteArray) 0 _ _ ([] : List (S35)) _ _ ([] : List (S33)) t293 _ ?side1 ?side2 ?side3 ?side4 A8.out).mono ?_); (case side1 => exact Kd.C_nil _ _); (case side2 => exact Nat.le_refl _); (case side3 => exact Kd.C_nil _ _); (case side4 => exact Nat.le_refl _); rintro e w24 ⟨rfl, hb⟩; have n0_ := rB HO278 hb; have n1_ := rB HO281 hb; have n2_ := rB HO285 hb; have n3_ := rB HO291 hb; have n4_ := bB BK282 hb; have n5_ := hB HB hb; clear HO278; clear HO281; clear HO285; clear HO291; clear BK282; clear HB; have HO278 := n0_; have HO281 := n1_; have HO285 := n2_; have HO291 := n3_; have BK282 := n4_; have HB := n5_; clear n0_ n1_ n2_ n3_ n4_ n5_; clear hb))
      go_ret
      exact ⟨by first | rfl | (simp [errW_none, errW_some] <;> rfl) | (simp [*, errW_none, errW_some] <;> rfl) | (simp (disch := first | assumption | omega) only [Int.tdiv_eq_ediv_of_nonneg, Int.tmod_eq_emod_of_nonneg]; rfl), aH HB⟩
     ·rw [if_neg c7] at H
      have c7b0 : (t287 == 310) = false := beq_eq_false_iff_ne.mpr c7
      have c7b1 : (t287 != 310) = true := bne_iff_ne.mpr c7
      obtain rfl := Option.some.inj H
      exact absurd HT.out (by decide)
    ·replace c6 := Bool.eq_false_iff.mpr c6
     subst c6
     have H1 : (some false) = some r := by rw [if_neg (show ¬ (false = true) by decide)] at H; exact H
     clear H
     have H := H1
     clear H1
     obtain rfl := Option.some.inj H
     exact absurd HT.out (by decide)
   ·rw [if_neg c4] at H
    have c4b0 : (t288 == 0) = false := beq_eq_false_iff_ne.mpr c4
    have c4b1 : (t288 != 0) = true := bne_iff_ne.mpr c4
    obtain rfl := Option.some.inj H
    exact absurd HT.out (by decide)
  ·rw [if_neg c3] at H
   have c3b0 : (t286 == 0) = false := beq_eq_false_iff_ne.mpr c3
   have c3b1 : (t286 != 0) = true := bne_iff_ne.mpr c3
   obtain rfl := Option.some.inj H
   exact absurd HT.out (by decide)

end Go.Proofs.Yteoieencagcgdaa.PX
end
section
namespace Go.Proofs.Yteoieencagcgdaa.PX
open Go.RowKit Go.Proofs.YteoieencagcgdaaW.PrintWords Go.Proofs.YteoieencagcgdaaW.PrintLast Go.Proofs.YteoieencagcgdaaW.PrintMore
attribute [local go_sem] max2_int min2_int max_two min_two max_three min_three max_four min_four
set_option linter.unusedVariables false
set_option linter.unusedSimpArgs false

def customsmade_Within.f (a0 : Int) (a1 : Int) : Option (Int) := if a1 = 0 then (none) else (some (Int.tmod (wrap64 ((Int.tmod a0 a1) + a1)) a1))
set_option maxHeartbeats 8000000 in
set_option maxRecDepth 100000 in
theorem customsmade_Within.calls (a0 : Int) (a1 : Int) (r : Int) (w : World) (h : customsmade_Within.f a0 a1 = some r) :
   Calls Try.prog 13 #[.int .i64 a0, .int .i64 a1] w fun e w' => e = .returned (.int .i64 r) ∧ Drawn0 w w' := by
  have H : (if a1 = 0 then (none) else (some (Int.tmod (wrap64 ((Int.tmod a0 a1) + a1)) a1))) = some r := h
  clear h
  by_cases c3 : a1 = 0
  ·rw [if_pos c3] at H
   exact absurd H (by simp)
  ·rw [if_neg c3] at H
   have c3b0 : (a1 == 0) = false := beq_eq_false_iff_ne.mpr c3
   have c3b1 : (a1 != 0) = true := bne_iff_ne.mpr c3
   obtain rfl := Option.some.inj H
   simp only [Option.some.injEq, Prod.mk.injEq] at H
   obtain ⟨rfl⟩ := H
   go_enter Try.func13, Try.ntmps13
   go_wp2
   go_ret
   exact ⟨by first | rfl | (simp; done) | (simp [*]; done), by repeat (first | exact Drawn0.refl _ | apply Drawn0.step)⟩

end Go.Proofs.Yteoieencagcgdaa.PX
end
section
namespace Go.Proofs.Yteoieencagcgdaa.PX
open Go.RowKit Go.Proofs.YteoieencagcgdaaW.PrintWords Go.Proofs.YteoieencagcgdaaW.PrintLast Go.Proofs.YteoieencagcgdaaW.PrintMore
attribute [local go_sem] max2_int min2_int max_two min_two max_three min_three max_four min_four
set_option linter.unusedVariables false
set_option linter.unusedSimpArgs false

def customsmade_Currency.f (a0 : Int) : Option (ByteArray) := (some (([(⟨#[67, 72, 70]⟩ : ByteArray), (⟨#[71, 66, 80]⟩ : ByteArray), (⟨#[85, 83, 68]⟩ : ByteArray), (⟨#[69, 85, 82]⟩ : ByteArray), (⟨#[88, 88, 88]⟩ : ByteArray)] : List ByteArray) : List ByteArray)).bind fun y113 => ((customsmade_Within.f a0 5).bind fun t116 => (if 0 ≤ t116 then (if t116 < (y113.length : Int) then (some (rdOf ByteArray.empty y113 t116)) else (none)) else (none)))
set_option maxHeartbeats 8000000 in
set_option maxRecDepth 100000 in
theorem customsmade_Currency.calls (a0 : Int) (r : ByteArray) (w : World) (h : customsmade_Currency.f a0 = some r) :
   Calls Try.prog 22 #[.int .i64 a0] w fun e w' => e = .returned (.string r) ∧ Below w.heap.size w w' := by
  have HB := Aside0.mk (Below.refl w.heap.size w)
  have H : ((some (([(⟨#[67, 72, 70]⟩ : ByteArray), (⟨#[71, 66, 80]⟩ : ByteArray), (⟨#[85, 83, 68]⟩ : ByteArray), (⟨#[69, 85, 82]⟩ : ByteArray), (⟨#[88, 88, 88]⟩ : ByteArray)] : List ByteArray) : List ByteArray)).bind fun y113 => ((customsmade_Within.f a0 5).bind fun t116 => (if 0 ≤ t116 then (if t116 < (y113.length : Int) then (some (rdOf ByteArray.empty y113 t116)) else (none)) else (none)))) = some r := h
  clear h
  obtain ⟨y113, hy113⟩ : ∃ y_ : List ByteArray, y_ = (([(⟨#[67, 72, 70]⟩ : ByteArray), (⟨#[71, 66, 80]⟩ : ByteArray), (⟨#[85, 83, 68]⟩ : ByteArray), (⟨#[69, 85, 82]⟩ : ByteArray), (⟨#[88, 88, 88]⟩ : ByteArray)] : List ByteArray)) := ⟨_, rfl⟩
  replace H : ((customsmade_Within.f a0 5).bind fun t116 => (if 0 ≤ t116 then (if t116 < (y113.length : Int) then (some (rdOf ByteArray.empty y113 t116)) else (none)) else (none))) = some r := by first | (rw [hy113]; with_reducible exact H) | (have H2_ := (Option.bind_some _ _).symm.trans H; rw [hy113]; with_reducible exact H2_) | (have H2_ := (Option.bind_some _ _).symm.trans H; with_reducible exact H2_) | with_reducible exact H | (rw [hy113]; exact H) | exact H
  have Ny113 := Aside0.mk hy113
  clear hy113
  replace H := Option.bind_eq_some_iff.mp H
  obtain ⟨t116, A20, H⟩ := H
  replace H : (if 0 ≤ t116 then (if t116 < (y113.length : Int) then (some (rdOf ByteArray.empty y113 t116)) else (none)) else (none)) = some r := H
  have A2 := Aside0.mk A20
  clear A20
  by_cases c3 : 0 ≤ t116
  ·rw [if_pos c3] at H
   have c3b0 : decide (0 ≤ t116) = true := decide_eq_true c3
   clear c3
   by_cases c4 : t116 < (y113.length : Int)
   ·rw [if_pos c4] at H
    have c4b0 : decide (t116 < (y113.length : Int)) = true := decide_eq_true c4
    clear c4
    obtain rfl := Option.some.inj H
    simp only [Option.some.injEq, Prod.mk.injEq] at H
    obtain ⟨rfl⟩ := H
    go_enter Try.func22, Try.ntmps22
    go_wp2_with (first | ((with_reducible refine gate_dst (N := 3) rfl ?_); refine Kd.R_lit Kd.string _ 9 ?hg (N := 3) ?hd (xs := ([(⟨#[67, 72, 70]⟩ : ByteArray), (⟨#[71, 66, 80]⟩ : ByteArray), (⟨#[85, 83, 68]⟩ : ByteArray), (⟨#[69, 85, 82]⟩ : ByteArray), (⟨#[88, 88, 88]⟩ : ByteArray)] : List ByteArray)) (inner := [.string (⟨#[67, 72, 70]⟩ : ByteArray), .string (⟨#[71, 66, 80]⟩ : ByteArray), .string (⟨#[85, 83, 68]⟩ : ByteArray), .string (⟨#[69, 85, 82]⟩ : ByteArray), .string (⟨#[88, 88, 88]⟩ : ByteArray)]) (ok := fun _ => True) (okp := fun _ => True) ?hr ?hp (fun _ hk => hk) trivial (Below.refl _ _) (Nat.le_refl _) (by simp) ?_; (case hd => rfl); (case hg => rfl); (case hr => first | (go_simp; done) | (go_simp; rfl)); (case hp => exact (Reps.one (show Kd.M Kd.string _ _ _ (⟨#[67, 72, 70]⟩ : ByteArray) [.string (⟨#[67, 72, 70]⟩ : ByteArray)] from rfl) (Reps.one (show Kd.M Kd.string _ _ _ (⟨#[71, 66, 80]⟩ : ByteArray) [.string (⟨#[71, 66, 80]⟩ : ByteArray)] from rfl) (Reps.one (show Kd.M Kd.string _ _ _ (⟨#[85, 83, 68]⟩ : ByteArray) [.string (⟨#[85, 83, 68]⟩ : ByteArray)] from rfl) (Reps.one (show Kd.M Kd.string _ _ _ (⟨#[69, 85, 82]⟩ : ByteArray) [.string (⟨#[69, 85, 82]⟩ : ByteArray)] from rfl) (Reps.one (show Kd.M Kd.string _ _ _ (⟨#[88, 88, 88]⟩ : ByteArray) [.string (⟨#[88, 88, 88]⟩ : ByteArray)] from rfl) (Reps.none _ _))))))); intro v114 w5 ho6 hb hg_ hnew_; clear hg_ hnew_; (first | rw [← Ny113.out] at ho6 | (simp only [Int.reduceToNat] at ho6; rw [← Ny113.out] at ho6)); have n0_ := rL ho6 HB; have n1_ := hB HB hb; clear HB; have HO115 := n0_; have HB := n1_; clear n0_ n1_; clear hb ho6) | ((with_reducible refine gate_callee (f := 13) rfl ?_); refine goA (some 5) Try.func13 #[.int .i64 a0, .int .i64 5] ?_; (with_reducible refine (customsmade_Within.calls a0 5 t116 _ A2.out).mono ?_); rintro e w' ⟨rfl, ⟨nd, rfl⟩⟩; refine ⟨_, rfl, ?_⟩; obtain ⟨Ao7, co7, eo7⟩ := Kd.R_slice HO115.out; subst eo7; have p117 : 0 ≤ (t116 : Int) := of_decide_eq_true (by first | (with_reducible assumption) | assumption); have q117 : t116 < (y113.length : Int) := of_decide_eq_true (by first | (with_reducible assumption) | assumption); obtain ⟨ad117, e117, hx117_0⟩ := Kd.at_string (Kd.R_reads' HO115.out).2.2 t116 p117 q117; cases e117; replace p117 := eq_true p117; replace q117 := eq_true q117))
    go_ret
    exact ⟨by first | rfl | (simp [errW_none, errW_some] <;> rfl) | (simp [*, errW_none, errW_some] <;> rfl) | (simp (disch := first | assumption | omega) only [Int.tdiv_eq_ediv_of_nonneg, Int.tmod_eq_emod_of_nonneg]; rfl), aH HB⟩
   ·rw [if_neg c4] at H
    exact absurd H (by simp)
  ·rw [if_neg c3] at H
   exact absurd H (by simp)

end Go.Proofs.Yteoieencagcgdaa.PX
end
section
namespace Go.Proofs.Yteoieencagcgdaa.PX
open Go.RowKit Go.Proofs.YteoieencagcgdaaW.PrintWords Go.Proofs.YteoieencagcgdaaW.PrintLast Go.Proofs.YteoieencagcgdaaW.PrintMore
attribute [local go_sem] max2_int min2_int max_two min_two max_three min_three max_four min_four
set_option linter.unusedVariables false
set_option linter.unusedSimpArgs false

def IsS53 (w0 W : World) (g : Nat) (f0 : List Int) (f1 : Int) : Prop := ∃ A0 c0, W.heap[g]? = some (.cells #[.slice A0 f0.length c0, .int .i64 f1] 53 (0, 0)) ∧ w0.heap.size ≤ g ∧ Kd.C (Kd.int .i64) w0 A0 f0.length f0
theorem IsS53.grown {w0 W : World} {g : Nat} {f0 : List Int} {f1 : Int} {W1 : World} {row : Option Nat} (h : IsS53 w0 W g f0 f1) (hw : W.grownBy W1 row) (hne : some g ≠ row) : IsS53 w0 W1 g f0 f1 := by
  obtain ⟨A0, c0, hb, hg, hr0⟩ := h
  exact ⟨A0, c0, blk_grown hb hw hne, hg, hr0⟩
theorem IsS53.kept {w0 W : World} {g : Nat} {f0 : List Int} {f1 : Int} {W1 : World} {S : Nat → Prop} (h : IsS53 w0 W g f0 f1) (hk : Kept W W1 S) (hne : ¬ S g) : IsS53 w0 W1 g f0 f1 := by
  obtain ⟨A0, c0, hb, hg, hr0⟩ := h
  exact ⟨A0, c0, blk_kept hb hk hne, hg, hr0⟩
theorem IsS53.below {w0 W : World} {g : Nat} {f0 : List Int} {f1 : Int} {W1 : World} (h : IsS53 w0 W g f0 f1) (hw : Below W.heap.size W W1) : IsS53 w0 W1 g f0 f1 := h.grown (grown_of_below hw none) (by simp)
theorem IsS53.alloc {w0 W : World} {g : Nat} {f0 : List Int} {f1 : Int} (h : IsS53 w0 W g f0 f1) (o : Obj) : IsS53 w0 (W.alloc o) g f0 f1 := h.below (below_alloc (Below.refl _ _) o)
theorem IsS53.drewN {w0 W : World} {g : Nat} {f0 : List Int} {f1 : Int} (h : IsS53 w0 W g f0 f1) (m : Nat) : IsS53 w0 (W.drewN m) g f0 f1 := h
theorem IsS53.drew {w0 W : World} {g : Nat} {f0 : List Int} {f1 : Int} (h : IsS53 w0 W g f0 f1) : IsS53 w0 W.drew g f0 f1 := h
theorem IsS53.at_ {w0 W : World} {g : Nat} {f0 : List Int} {f1 : Int} {w' : World} {m : Nat} (hq : W.drewN m = w') (h : IsS53 w0 W g f0 f1) : IsS53 w0 w' g f0 f1 := by subst hq; exact IsS53.drewN h m
theorem IsS53.apart {w0 W : World} {g : Nat} {f0 : List Int} {f1 : Int} {α : Type} {d : Kd α} {e : Nat} {base : Nat} {ok : Nat → Prop} {v : Value} {xs : List α} (h : IsS53 w0 W g f0 f1) (ho : d.R e W base ok v xs) (ht : ∀ q, q ∈ e :: d.E → q ≠ 53) : d.R e W base (fun k => ok k ∧ k ≠ g) v xs := by
  obtain ⟨A0, c0, hb, hg, hr0⟩ := h
  exact Kd.R_types ho hb ht
theorem IsS53.own_ne {w0 W : World} {g : Nat} {f0 : List Int} {f1 : Int} {α : Type} {d : Kd α} {e : Nat} {base : Nat} {ok : Nat → Prop} {v : Value} {xs : List α} (h : IsS53 w0 W g f0 f1) (ho : d.R e W base ok v xs) (ht : e ≠ 53) : some g ≠ v.ownBlock := by
  obtain ⟨A0, c0, hb, hg, hr0⟩ := h
  exact Kd.R_ne ho hb ht
theorem IsS53.lt {w0 W : World} {g : Nat} {f0 : List Int} {f1 : Int} (h : IsS53 w0 W g f0 f1) : g < W.heap.size := by
  obtain ⟨A0, c0, hb, hg, hr0⟩ := h
  exact blk_lt hb
theorem IsS53.ge {w0 W : World} {g : Nat} {f0 : List Int} {f1 : Int} (h : IsS53 w0 W g f0 f1) : w0.heap.size ≤ g := by
  obtain ⟨A0, c0, hb, hg, hr0⟩ := h
  exact hg
theorem IsS53.ne_blk {w0 W : World} {g : Nat} {f0 : List Int} {f1 : Int} {a : Nat} {cs : Array Value} {t : TypeId} {fr : Nat × Nat} (h : IsS53 w0 W g f0 f1) (hb2 : W.heap[a]? = some (.cells cs t fr)) (ht : t ≠ 53) : g ≠ a := by
  obtain ⟨A0, c0, hb, hg, hr0⟩ := h
  rintro rfl
  rw [hb] at hb2
  injection hb2 with hb2
  injection hb2 with _ ht2
  exact ht ht2.symm
theorem IsS53.far {w0 W : World} {g : Nat} {f0 : List Int} {f1 : Int} {p : Addr} (h : IsS53 w0 W g f0 f1) (hne : g ≠ p.block) (u : Value) : IsS53 w0 (W.setCell p u) g f0 f1 := by
  obtain ⟨A0, c0, hb, hg, hr0⟩ := h
  exact ⟨A0, c0, blk_far hb hne u, hg, hr0⟩
theorem cellS53_0 {W : World} {g : Nat} {A0 : Option Addr} {c0 : Nat} {f0 : List Int} {f1 : Int} (h : W.heap[g]? = some (.cells #[.slice A0 f0.length c0, .int .i64 f1] 53 (0, 0))) : W.cell? ⟨g, 0, none⟩ = some (.slice A0 f0.length c0) := (blk_cell h 0).trans rfl
theorem cellS53_1 {W : World} {g : Nat} {A0 : Option Addr} {c0 : Nat} {f0 : List Int} {f1 : Int} (h : W.heap[g]? = some (.cells #[.slice A0 f0.length c0, .int .i64 f1] 53 (0, 0))) : W.cell? ⟨g, 1, none⟩ = some (.int .i64 f1) := (blk_cell h 1).trans rfl
theorem IsS53.set_1 {w0 W : World} {g : Nat} {f0 : List Int} {f1 : Int} (h : IsS53 w0 W g f0 f1) (x : Int) : IsS53 w0 (W.setCell ⟨g, 1, none⟩ (.int .i64 x)) g f0 x := by
  obtain ⟨A0, c0, hb, hg, hr0⟩ := h
  exact ⟨A0, c0, by simpa using blk_set hb 1 (.int .i64 x), hg, hr0⟩
theorem IsS53.new (w0 W : World) (A0 : Option Addr) (c0 : Nat) (f0 : List Int) (f1 : Int) (hB : Below w0.heap.size w0 W) (hr0 : Kd.C (Kd.int .i64) w0 A0 f0.length f0) : IsS53 w0 (W.alloc (.cells #[.slice A0 f0.length c0, .int .i64 f1] 53)) W.heap.size f0 f1 := ⟨A0, c0, by simpa using heap_alloc_new W _, hB.size, hr0⟩

def customsmade_Source_Next.f (s0_0 : List Int) (s0_1 : Int) (a1 : Int) : Option (Int × Int) := if s0_1 ≥ (s0_0.length : Int) then (some (0, s0_1)) else (if 0 ≤ (wrap64 ((wrap64 (s0_1 + 1)) - 1)) then (if (wrap64 ((wrap64 (s0_1 + 1)) - 1)) < (s0_0.length : Int) then ((customsmade_Within.f (rd s0_0 (wrap64 ((wrap64 (s0_1 + 1)) - 1))) a1).bind fun t119 => (some (t119, wrap64 (s0_1 + 1)))) else (none)) else (none))
set_option maxHeartbeats 8000000 in
set_option maxRecDepth 100000 in
theorem customsmade_Source_Next.calls (g : Nat) (s0_0 : List Int) (s0_1 : Int) (a1 : Int) (r1 : Int) (r2 : Int) (w0 w : World) (hI : IsS53 w0 w g s0_0 s0_1) (hB : Below w0.heap.size w0 w) (h : customsmade_Source_Next.f s0_0 s0_1 a1 = some (r1, r2)) :
   Calls Try.prog 24 #[.pointer (some ⟨g, 0, none⟩), .int .i64 a1] w fun e w' => e = .returned (.int .i64 r1) ∧ IsS53 w0 w' g s0_0 r2 ∧ Below w0.heap.size w0 w' ∧ KeepBut w w' g none := by
  have HI0 := Aside0.mk hI
  have HK := Aside0.mk (KeepBut.refl w g none)
  have HL := Aside0.mk hB.size
  clear hI
  have HW0 := Aside0.mk hB.size
  have HB := Aside0.mk hB
  clear hB
  have H : (if s0_1 ≥ (s0_0.length : Int) then (some (0, s0_1)) else (if 0 ≤ (wrap64 ((wrap64 (s0_1 + 1)) - 1)) then (if (wrap64 ((wrap64 (s0_1 + 1)) - 1)) < (s0_0.length : Int) then ((customsmade_Within.f (rd s0_0 (wrap64 ((wrap64 (s0_1 + 1)) - 1))) a1).bind fun t119 => (some (t119, wrap64 (s0_1 + 1)))) else (none)) else (none))) = some (r1, r2) := h
  clear h
  by_cases c3 : s0_1 ≥ (s0_0.length : Int)
  ·rw [if_pos c3] at H
   have c3b0 : decide ((s0_0.length : Int) ≤ s0_1) = true := decide_eq_true c3
   clear c3
   simp only [Option.some.injEq, Prod.mk.injEq] at H
   obtain ⟨rfl, rfl⟩ := H
   obtain ⟨ASz4_0, cSz4_0, HGz4, hgz4, HSz4_0⟩ := HI0.out
   have hcz4_0 := cellS53_0 HGz4
   have hcz4_1 := cellS53_1 HGz4
   have hfz4_1 := blk_frozen HGz4 1
   clear HGz4 hgz4
   go_enter Try.func24, Try.ntmps24
   go_wp2
   repeat (go_quiet (fail); try go_wp2)
   go_ret
   exact ⟨by first | rfl | (simp [errW_none, errW_some] <;> rfl) | (simp [*, errW_none, errW_some] <;> rfl) | (simp (disch := first | assumption | omega) only [Int.tdiv_eq_ediv_of_nonneg, Int.tmod_eq_emod_of_nonneg]; rfl), by repeat (first | (with_reducible first | exact HI0.out | apply IsS53.alloc | apply IsS53.drewN | apply IsS53.drew | apply IsS53.set_1) | exact HI0.out), by repeat (first | (with_reducible first | exact HB.out | apply below_alloc | apply pw_below_drewN | apply below_drew1 | refine below_set ?_ (IsS53.ge HI0.out)) | exact HB.out), by repeat (first | (with_reducible first | exact HK.out | apply KeepBut.set_ | apply keep_drewN | apply keep_drew | apply keep_alloc) | exact HK.out)⟩
  ·rw [if_neg c3] at H
   have c3b0 : decide ((s0_0.length : Int) ≤ s0_1) = false := decide_eq_false c3
   clear c3
   obtain ⟨ji5, hji5⟩ : ∃ j_ : Int, (wrap64 ((wrap64 (s0_1 + 1)) - 1)) = j_ := ⟨_, rfl⟩
   replace H : (if 0 ≤ (ji5) then (if (ji5) < (s0_0.length : Int) then ((customsmade_Within.f (rd s0_0 (ji5)) a1).bind fun t119 => (some (t119, wrap64 (s0_1 + 1)))) else (none)) else (none)) = some (r1, r2) := by first | (rw [hji5] at H; exact H) | (simp only [hji5] at H ⊢; exact H)
   have hji5w : (IntKind.i64.wrap ((wrap64 (s0_1 + 1)) - 1)) = ji5 := (i64_w _).trans hji5
   by_cases c6 : 0 ≤ (ji5)
   ·rw [if_pos c6] at H
    have c6b0 : decide (0 ≤ (ji5)) = true := decide_eq_true c6
    clear c6
    by_cases c7 : (ji5) < (s0_0.length : Int)
    ·rw [if_pos c7] at H
     have c7b0 : decide ((ji5) < (s0_0.length : Int)) = true := decide_eq_true c7
     clear c7
     replace H := Option.bind_eq_some_iff.mp H
     obtain ⟨t119, A80, H⟩ := H
     replace H : (some (t119, wrap64 (s0_1 + 1))) = some (r1, r2) := H
     have A8 := Aside0.mk A80
     clear A80
     simp only [Option.some.injEq, Prod.mk.injEq] at H
     obtain ⟨rfl, rfl⟩ := H
     obtain ⟨ASz9_0, cSz9_0, HGz9, hgz9, HSz9_0⟩ := HI0.out
     have hcz9_0 := cellS53_0 HGz9
     have hcz9_1 := cellS53_1 HGz9
     have hfz9_1 := blk_frozen HGz9 1
     clear HGz9 hgz9
     have p118 : 0 ≤ ((ji5) : Int) := of_decide_eq_true (by first | (with_reducible assumption) | assumption)
     have q118 : (ji5) < (s0_0.length : Int) := of_decide_eq_true (by first | (with_reducible assumption) | assumption)
     obtain ⟨ad118, e118, hx118_0⟩ := Kd.at_int HSz9_0 (ji5) p118 q118
     cases e118
     have hn118_0 : ad118.block ≠ g := Nat.ne_of_lt (Nat.lt_of_lt_of_le (by have := World.block_lt_of_cell? _ _ hx118_0; first | rwa [add_block] at this | exact this) (IsS53.ge HI0.out))
     replace hx118_0 := pw_cell_below HB.out hx118_0
     replace hx118_0 := (cell_far (p := ⟨g, 1, none⟩) (by first | (rw [add_block]; exact hn118_0) | (show (Addr.add _ _).block ≠ _; rw [add_block]; exact hn118_0) | exact hn118_0) (.int .i64 (wrap64 (s0_1 + 1)))).trans hx118_0
     (try have hy118_0 := fun (n_ : Nat) => (show (((w.drewN n_).setCell ⟨g, 1, none⟩ (.int .i64 (wrap64 (s0_1 + 1))))).cell? _ = some _ from hx118_0))
     clear hn118_0
     replace p118 := eq_true p118
     replace q118 := eq_true q118
     go_enter Try.func24, Try.ntmps24
     go_wp2_with (first | (go_at_call 13; (with_reducible refine (customsmade_Within.calls (rd s0_0 (ji5)) a1 t119 _ A8.out).mono ?_); rintro e w' ⟨rfl, ⟨nd, rfl⟩⟩; (try first | exact ⟨rfl, _, World.drewN_drewN _ _ _⟩ | exact ⟨rfl, _, Eq.trans (World.drewN_drewN _ _ _) (congrArg (World.drewN _) (Nat.add_assoc _ _ _))⟩)))
     repeat (go_quiet (first | (go_at_call 13; (with_reducible refine (customsmade_Within.calls (rd s0_0 (ji5)) a1 t119 _ A8.out).mono ?_); rintro e w' ⟨rfl, ⟨nd, rfl⟩⟩; (try first | exact ⟨rfl, _, World.drewN_drewN _ _ _⟩ | exact ⟨rfl, _, Eq.trans (World.drewN_drewN _ _ _) (congrArg (World.drewN _) (Nat.add_assoc _ _ _))⟩))); try go_wp2_with (first | (go_at_call 13; (with_reducible refine (customsmade_Within.calls (rd s0_0 (ji5)) a1 t119 _ A8.out).mono ?_); rintro e w' ⟨rfl, ⟨nd, rfl⟩⟩; (try first | exact ⟨rfl, _, World.drewN_drewN _ _ _⟩ | exact ⟨rfl, _, Eq.trans (World.drewN_drewN _ _ _) (congrArg (World.drewN _) (Nat.add_assoc _ _ _))⟩))))
     go_ret
     exact ⟨by first | rfl | (simp [errW_none, errW_some] <;> rfl) | (simp only [← hji5]; first | rfl | (simp [errW_none, errW_some] <;> rfl)) | (simp [*, errW_none, errW_some] <;> rfl) | (simp (disch := first | assumption | omega) only [Int.tdiv_eq_ediv_of_nonneg, Int.tmod_eq_emod_of_nonneg]; rfl), by repeat (first | (with_reducible first | exact HI0.out | apply IsS53.alloc | apply IsS53.drewN | apply IsS53.drew | apply IsS53.set_1) | exact HI0.out), by repeat (first | (with_reducible first | exact HB.out | apply below_alloc | apply pw_below_drewN | apply below_drew1 | refine below_set ?_ (IsS53.ge HI0.out)) | exact HB.out), by repeat (first | (with_reducible first | exact HK.out | apply KeepBut.set_ | apply keep_drewN | apply keep_drew | apply keep_alloc) | exact HK.out)⟩
    ·rw [if_neg c7] at H
     exact absurd H (by simp)
   ·rw [if_neg c6] at H
    exact absurd H (by simp)

end Go.Proofs.Yteoieencagcgdaa.PX
end
section
namespace Go.Proofs.Yteoieencagcgdaa.PX
open Go.RowKit Go.Proofs.YteoieencagcgdaaW.PrintWords Go.Proofs.YteoieencagcgdaaW.PrintLast Go.Proofs.YteoieencagcgdaaW.PrintMore
attribute [local go_sem] max2_int min2_int max_two min_two max_three min_three max_four min_four
set_option linter.unusedVariables false
set_option linter.unusedSimpArgs false

theorem R_keep_base {α : Type} {d : Kd α} {e : Nat} {w w1 : World} {base : Nat} {ok : Nat → Prop} {v : Value} {xs : List α} {g : Nat} (h : d.R e w base ok v xs) (hk : KeepBut w w1 g none) (hg : g < base) : d.R e w1 base ok v xs :=
  Kd.R_mono (Kd.R_keep (Kd.R_bound h) hk (fun k hk => by obtain ⟨_, hb, _⟩ := hk; omega)) (fun _ hk => hk.1)
theorem cell_alloc {w : World} {o : Obj} {a : Addr} {v : Value} (h : (w.alloc o).cell? a = some v) (hl : a.block < w.heap.size) : w.cell? a = some v :=
  (((Below.refl w.heap.size w).alloc (Nat.le_refl _) o).cell hl).symm.trans h
theorem keep_row {w W W1 : World} {g : Nat} {row : Option Nat} (h : KeepBut w W g none) (hg : W.grownBy W1 row) (hr : ∀ k, row = some k → w.heap.size ≤ k) : KeepBut w W1 g none := by
  refine ⟨Nat.le_trans h.1 hg.size, fun i hi hne _ => ?_⟩
  rw [hg.block i (Nat.lt_of_lt_of_le hi h.1) (fun e => by have := hr i e.symm; omega)]
  exact h.2 i hi hne (by simp)
def srcNext (l : List Int) (m : Int) : Int × List Int := match l with
  | [] => (0, [])
  | x :: t => (x % m, t)
def Rng64 (x : Int) : Prop := -9223372036854775808 ≤ x ∧ x < 9223372036854775808
def rng64 (x : Int) : Bool := decide (-9223372036854775808 ≤ x) && decide (x < 9223372036854775808)
theorem rng_all {xs : List Int} (h : xs.all rng64 = true) : ∀ x ∈ xs, Rng64 x := by
  intro x hx
  have := List.all_eq_true.mp h x hx
  simpa [rng64, Rng64] using this
theorem all_rng {xs : List Int} (h : ∀ x ∈ xs, (Lit.int .i64 x).wf = true) : xs.all rng64 = true := by
  refine List.all_eq_true.mpr fun x hx => ?_
  have := h x hx
  simp [Lit.wf, IntKind.min, IntKind.max, IntKind.bits, IntKind.signed] at this
  simp [rng64]; omega
theorem within_is (x m : Int) (hx : Rng64 x) (h0 : 0 < m) (h1 : m ≤ 4611686018427387904) : customsmade_Within.f x m = some (x % m) := by
  unfold Rng64 at hx
  unfold customsmade_Within.f
  have e1 : -m < Int.tmod x m ∧ Int.tmod x m < m := by
    by_cases h : 0 ≤ x
    · rw [Int.tmod_eq_emod_of_nonneg h]; exact ⟨by have := Int.emod_nonneg x (show m ≠ 0 by omega); omega, Int.emod_lt_of_pos x h0⟩
    · have := Int.emod_nonneg (-x) (show m ≠ 0 by omega)
      have := Int.emod_lt_of_pos (-x) h0
      have e : Int.tmod x m = -((-x) % m) := by
        have := Int.neg_tmod (-x) m
        rw [Int.neg_neg] at this
        rw [this, Int.tmod_eq_emod_of_nonneg (by omega)]
      omega
  have e2 : Int.tmod (Int.tmod x m + m) m = x % m := by
    rw [Int.tmod_eq_emod_of_nonneg (by omega), Int.add_emod_right]
    by_cases h : 0 ≤ x
    · rw [Int.tmod_eq_emod_of_nonneg h, Int.emod_emod]
    · have h2 : x = Int.tmod x m + m * Int.tdiv x m := (Int.tmod_add_mul_tdiv x m).symm
      have h3 : (Int.tmod x m + m * Int.tdiv x m) % m = Int.tmod x m % m := Int.add_mul_emod_self_left _ _ _
      rw [← h2] at h3; exact h3.symm
  rw [if_neg (by omega)]
  have w1 : wrap64 (Int.tmod x m + m) = Int.tmod x m + m := by unfold wrap64; omega
  rw [w1, e2]
def Src (w0 W : World) (g : Nat) (l : List Int) : Prop := ∃ (ys : List Int) (j : Nat), IsS53 w0 W g ys j ∧ l = ys.drop j ∧ j ≤ ys.length ∧ ∀ x ∈ ys, Rng64 x
theorem srcNext_rng {l : List Int} {m a : Int} {l1 : List Int} (h : srcNext l m = (a, l1)) (hm : 0 < m) : 0 ≤ a ∧ a < m := by
  cases l with
  | nil => simp only [srcNext, Prod.mk.injEq] at h; omega
  | cons x t =>
    simp only [srcNext, Prod.mk.injEq] at h
    rw [← h.1]; exact ⟨Int.emod_nonneg x (by omega), Int.emod_lt_of_pos x hm⟩
theorem src_next {w0 w : World} {g : Nat} {l : List Int} (m : Int) (h : Src w0 w g l) (hB : Below w0.heap.size w0 w) (h0 : 0 < m) (h1 : m ≤ 4611686018427387904) (a : Int) (l1 : List Int) (hn : srcNext l m = (a, l1)) :
    Calls Try.prog 24 #[.pointer (some ⟨g, 0, none⟩), .int .i64 m] w fun e w' => e = .returned (.int .i64 a) ∧ Src w0 w' g l1 ∧ Below w0.heap.size w0 w' ∧ KeepBut w w' g none := by
  obtain ⟨ys, j, hI, rfl, hj, hx⟩ := h
  have hlen : ys.length ≤ 9223372036854775807 := by obtain ⟨A, c, _, _, hr⟩ := hI; exact hr.2.1
  by_cases hlt : j < ys.length
  · rw [List.drop_eq_getElem_cons hlt] at hn
    simp only [srcNext, Prod.mk.injEq] at hn
    have e : customsmade_Source_Next.f ys (j : Int) m = some (a, ((j + 1 : Nat) : Int)) := by
      unfold customsmade_Source_Next.f
      have w1 : wrap64 ((j : Int) + 1) = (j : Int) + 1 := by unfold wrap64; omega
      have w2 : wrap64 ((j : Int) + 1 - 1) = (j : Int) := by unfold wrap64; omega
      have er : rd ys (j : Int) = ys[j] := by unfold rd; rw [Int.toNat_natCast, List.getD_eq_getElem?_getD, List.getElem?_eq_getElem hlt]; rfl
      rw [if_neg (by omega), w1, w2, if_pos (by omega), if_pos (by omega), er, within_is _ m (hx _ (List.getElem_mem hlt)) h0 h1, hn.1]
      rfl
    refine (customsmade_Source_Next.calls g ys j m a _ w0 w hI hB e).mono ?_
    rintro e w' ⟨rfl, hI', hB', hK⟩
    exact ⟨rfl, ⟨ys, j + 1, hI', hn.2.symm, hlt, hx⟩, hB', hK⟩
  · rw [List.drop_of_length_le (by omega)] at hn
    simp only [srcNext, Prod.mk.injEq] at hn
    have e : customsmade_Source_Next.f ys (j : Int) m = some (a, (j : Int)) := by
      unfold customsmade_Source_Next.f
      rw [if_pos (by omega), hn.1]
    refine (customsmade_Source_Next.calls g ys j m a _ w0 w hI hB e).mono ?_
    rintro e w' ⟨rfl, hI', hB', hK⟩
    exact ⟨rfl, ⟨ys, j, hI', by rw [← hn.2, List.drop_of_length_le (by omega)], hj, hx⟩, hB', hK⟩
theorem cut_reads (A : Option Addr) (c : Nat) (xs : List Int) (m : Int) (w : World) (hr : Kd.C (Kd.int .i64) w A xs.length xs) (hc : xs.length ≤ c) (hm : 0 ≤ m) (ys : List Int) (hy : xs.take m.toNat = ys) :
    Calls Try.prog 23 #[.slice A xs.length c, .int .i64 m] w fun e w' => e = .returned (.slice A ys.length c) ∧ w = w' := by
  obtain ⟨i0, hi0, _, hsz, _⟩ := info_parts info3
  have hmax : xs.length ≤ 9223372036854775807 := hr.2.1
  by_cases h : m < (xs.length : Int)
  · have hcut := cut_to (P := Try.prog) 26 3 .i64 Try.underlying26 hi0 A xs.length c m hm (by omega) hc
    have hd : decide (m < (xs.length : Int)) = true := decide_eq_true h
    have e : ys.length = m.toNat := by rw [← hy, List.length_take]; omega
    rw [e]
    clear e h hr hy
    go_enter Try.func23, Try.ntmps23
    go_wp2
    go_ret
    exact ⟨rfl, rfl⟩
  · have hd : decide (m < (xs.length : Int)) = false := decide_eq_false h
    have e : ys.length = xs.length := by rw [← hy, List.length_take]; omega
    rw [e]
    clear e h hr hy
    go_enter Try.func23, Try.ntmps23
    go_wp2
    go_ret
    exact ⟨rfl, rfl⟩
theorem take_reads {A : Option Addr} {xs : List Int} {w : World} (hr : Kd.C (Kd.int .i64) w A xs.length xs) (m : Nat) (ys : List Int) (hy : xs.take m = ys) : Kd.C (Kd.int .i64) w A ys.length ys := by
  by_cases h : m ≤ xs.length
  · rw [← hy]; exact Kd.C_take hr h
  · rw [← hy, List.take_of_length_le (by omega)]; exact hr
def customsmade_Src.f (xs : List Int) (n : Int) : Option (List Int × Int) := some (xs.take n.toNat, 0)
theorem customsmade_Src.take {xs : List Int} {n : Int} {ys : List Int} {j : Int} (h : customsmade_Src.f xs n = some (ys, j)) : xs.take n.toNat = ys := (Prod.mk.inj (Option.some.inj h)).1
theorem customsmade_Src.is {w W : World} {g : Nat} {A : Option Addr} {c : Nat} {xs : List Int} {n : Int} {ys : List Int} {j : Int} (h : customsmade_Src.f xs n = some (ys, j)) (hr : Kd.C (Kd.int .i64) w A xs.length xs) (hb : W.heap[g]? = some (.cells #[.slice A ys.length c, .int .i64 0] 53 (0, 0))) (hg : w.heap.size ≤ g) : IsS53 w W g ys j := by
  obtain ⟨h1, rfl⟩ := Prod.mk.inj (Option.some.inj h)
  exact ⟨A, c, hb, hg, take_reads hr n.toNat ys h1⟩
theorem Src.new (w0 W : World) (A : Option Addr) (c : Nat) (ys : List Int) (hB : Below w0.heap.size w0 W) (hr : Kd.C (Kd.int .i64) w0 A ys.length ys) (hx : ∀ x ∈ ys, Rng64 x) : Src w0 (W.alloc (.cells #[.slice A ys.length c, .int .i64 0] 53)) W.heap.size ys :=
  ⟨ys, 0, IsS53.new w0 W A c ys 0 hB hr, rfl, Nat.zero_le _, hx⟩
theorem Src.below {w0 W W1 : World} {g : Nat} {l : List Int} (h : Src w0 W g l) (hw : Below W.heap.size W W1) : Src w0 W1 g l := by
  obtain ⟨ys, j, hI, hl, hj, hx⟩ := h; exact ⟨ys, j, hI.below hw, hl, hj, hx⟩
theorem Src.grown {w0 W W1 : World} {g : Nat} {l : List Int} {row : Option Nat} (h : Src w0 W g l) (hw : W.grownBy W1 row) (hne : some g ≠ row) : Src w0 W1 g l := by
  obtain ⟨ys, j, hI, hl, hj, hx⟩ := h; exact ⟨ys, j, hI.grown hw hne, hl, hj, hx⟩
theorem Src.lt {w0 W : World} {g : Nat} {l : List Int} (h : Src w0 W g l) : g < W.heap.size := by
  obtain ⟨ys, j, hI, _⟩ := h; exact hI.lt
theorem Src.own_ne {w0 W : World} {g : Nat} {l : List Int} {α : Type} {d : Kd α} {e : Nat} {base : Nat} {ok : Nat → Prop} {v : Value} {xs : List α} (h : Src w0 W g l) (ho : d.R e W base ok v xs) (ht : e ≠ 53) : some g ≠ v.ownBlock := by
  obtain ⟨ys, j, hI, _⟩ := h; exact hI.own_ne ho ht
end Go.Proofs.Yteoieencagcgdaa.PX
end
