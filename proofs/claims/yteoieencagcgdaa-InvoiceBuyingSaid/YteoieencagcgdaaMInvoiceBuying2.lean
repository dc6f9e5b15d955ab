/- Texts of this session joined by a small program: plain Lean functions with the answers of Go functions of this seat, proofs that the machine's calls come to them, and plain laws over them that the claim InvoiceBuying uses. -/
import Derived.Below
import Derived.Deep.Draws
import Derived.Deep.AppendLies
import Derived.Maps.AppendAt
import Derived.OwnWalk
import Derived.Laws.BytesArg
import Derived.Laws.MakeOwn
import Derived.Laws.OwnMore
import Derived.Deep.OwnRows
import Derived.Tactics
import Derived.Lib.ConvBytes
import Derived.Laws.Slices
import Derived.WalkKit
import Derived.KernelRfl
import Derived.RowKit3
import Derived.Deep.LoopGhost
import Derived.Deep.QuietTactic
import Derived.BigQuiet
import Derived.WideLaws
import Derived.Deep.DeepCutAuto
import Derived.Deep.CutBlock
import Derived.Deep.RegionHeld3
import Derived.Laws.Rows
import Derived.Lib.AppendStr
import Derived.ArgAppend
import Derived.Laws.IdiomCopy
import Derived.RowKit
import Derived.OrdersHeld
import Derived.Laws.BitsLemmas
import Derived.Laws.StructEq
import Derived.Test.YteoieencagcgdaaProg
import Derived.RegionTactic
import Derived.Maps.Own
import Derived.Maps.OwnOps
import Derived.Maps.OwnSet
import Derived.Laws.Externs
import Derived.WalkLawsBesides
import Derived.Deep.RegionLaw
import Derived.IntWalk
import Derived.Laws.Bits64
import Derived.Sort.Walk0
import Derived.SizedLaws
import Derived.ChangeSlices
import Derived.Test.YteoieencagcgdaaMInvoiceBuying1
section
namespace Go.Proofs.Yteoieencagcgdaa.PX
open Go.RowKit Go.Proofs.YteoieencagcgdaaW.PrintWords Go.Proofs.YteoieencagcgdaaW.PrintLast Go.Proofs.YteoieencagcgdaaW.PrintMore
attribute [local go_sem] max2_int min2_int max_two min_two max_three min_three max_four min_four
set_option linter.unusedVariables false
set_option linter.unusedSimpArgs false

def exact_Div.j0 : Nat → Int → Int → Bool → Int → Int → Option (Int × Int)
  | 0, _, _, _, _, _ => none
  | k + 1, x1, x2, x19, x196000, x196001 => if x19 = true then (some (0, 2)) else (if x196000 ≥ x1 then (some (0, 3)) else ((bits_Div64.f k x196000 x196001 x1).bind fun bt196 => ((exact_above.f bt196.1 bt196.2 x1 x2).bind fun t198 => (if t198 = true then (if (IntKind.u64.wrap (bt196.1 + 1)) = 0 then (some (0, 3)) else (some (IntKind.u64.wrap (bt196.1 + 1), 0))) else (some (bt196.1, 0))))))
def exact_Div.f (k : Nat) (a0_0 : Int) (a0_1 : Int) (a1 : Int) (a2 : Int) : Option (Int × Int) := if a1 = 0 then (exact_Div.j0 k a1 a2 true a0_0 a0_1) else (if a2 < 0 then (exact_Div.j0 k a1 a2 true a0_0 a0_1) else (exact_Div.j0 k a1 a2 (decide (a2 > 3)) a0_0 a0_1))
set_option maxHeartbeats 8000000 in
set_option maxRecDepth 100000 in
theorem exact_Div.calls (k : Nat) (a0_0 : Int) (a0_1 : Int) (a1 : Int) (a2 : Int) (r1 : Int) (r2 : Int) (w : World) (h : exact_Div.f k a0_0 a0_1 a1 a2 = some (r1, r2)) :
   Calls Try.prog 51 #[.agg #[.int .u64 a0_0, .int .u64 a0_1], .int .u64 a1, .int .i64 a2] w fun e w' => e = .returned (.tuple #[.int .u64 r1, .int .i64 r2]) ∧ Below w.heap.size w w' := by
  have hu89 := Try.underlying89
  have HB := Aside0.mk (Below.refl w.heap.size w)
  have H : (if a1 = 0 then (exact_Div.j0 k a1 a2 true a0_0 a0_1) else (if a2 < 0 then (exact_Div.j0 k a1 a2 true a0_0 a0_1) else (exact_Div.j0 k a1 a2 (decide (a2 > 3)) a0_0 a0_1))) = some (r1, r2) := h
  clear h
  have HC4 := Aside0.mk H
  clear H
  go_enter Try.func51, Try.ntmps51
  go_upto_region 1 with (first | ((with_reducible refine gate_dst (N := 3) rfl ?_); refine boxA (N := 3) (cs := #[.int .u64 a0_0, .int .u64 a0_1]) (t := 89) ?_; intro gb195 hg w5 hbox hb; have n0_ := hB HB hb; have n1_ := Aside0.mk (hbox); have n2_ := gW hg HB; have n3_ := gW hg HB; clear HB; have HB := n0_; have BK195 := n1_; have GW195 := n2_; have GE195 := n3_; clear n0_ n1_ n2_ n3_; clear hb hbox hg))
  (try simp only [Act.put, List.setIfInBounds_toArray, List.set_cons_zero, List.set_cons_succ])
  go_cut [19] (fun v19 wc => ∃ (kq : Nat) (x19_3 : Bool), v19 = .bool x19_3 ∧ Aside0 (exact_Div.j0 kq a1 a2 x19_3 a0_0 a0_1 = some (r1, r2)) ∧ Aside0 (kq ≤ k) ∧ Aside0 (wc.heap[gb195]? = some (.cells #[.int .u64 a0_0, .int .u64 a0_1] 89 (0, 0))) ∧ Aside0 (Below w.heap.size w wc))
  case first =>
   have H := HC4.out
   clear HC4
   by_cases c6 : a1 = 0
   ·rw [if_pos c6] at H
    have c6b0 : (a1 == 0) = true := beq_iff_eq.mpr c6
    have c6b1 : (a1 != 0) = false := bne_eq_false_iff_eq.mpr c6
    clear c6
    (first | rw [c6b0] | (simp only [i64_w, i32_w]; rw [c6b0]) | skip)
    have H' := Aside0.mk H
    clear H
    go_wp2
    go_meet
    case rel => exact ⟨_, (true), (by first | rfl | (simp; done) | (simp [*]; done)), H', ⟨by first | omega | exact Nat.le_refl _⟩, ⟨aB BK195⟩, ⟨aH HB⟩⟩
   ·rw [if_neg c6] at H
    have c6b0 : (a1 == 0) = false := beq_eq_false_iff_ne.mpr c6
    have c6b1 : (a1 != 0) = true := bne_iff_ne.mpr c6
    (first | rw [c6b0] | (simp only [i64_w, i32_w]; rw [c6b0]) | skip)
    by_cases c7 : a2 < 0
    ·rw [if_pos c7] at H
     have c7b0 : decide (a2 < 0) = true := decide_eq_true c7
     clear c7
     have H' := Aside0.mk H
     clear H
     go_wp2
     go_meet
     case rel => exact ⟨_, (true), (by first | rfl | (simp; done) | (simp [*]; done)), H', ⟨by first | omega | exact Nat.le_refl _⟩, ⟨aB BK195⟩, ⟨aH HB⟩⟩
    ·rw [if_neg c7] at H
     have c7b0 : decide (a2 < 0) = false := decide_eq_false c7
     clear c7
     have H' := Aside0.mk H
     clear H
     go_wp2
     go_meet
     case rel => exact ⟨_, (decide (a2 > 3)), (by first | rfl | (simp; done) | (simp [*]; done)), H', ⟨by first | omega | exact Nat.le_refl _⟩, ⟨aB BK195⟩, ⟨aH HB⟩⟩
  case rest =>
   clear HC4
   try clear p2
   try clear c5
   try clear c6
   try clear c6b0
   try clear c6b1
   try clear c7
   try clear c7b0
   obtain ⟨kq, x19_3, rfl, HA, HJ3, BK195, HB⟩ := hcut
   cases kq with
   | zero => exact absurd HA.out (by simp [exact_Div.j0])
   | succ kj3 =>
    have H := HA.out
    clear HA
    simp only [exact_Div.j0] at H
    by_cases c8 : x19_3 = true
    ·subst c8
     have H1 : (some (0, 2)) = some (r1, r2) := by rw [if_pos rfl] at H; exact H
     clear H
     have H := H1
     clear H1
     simp only [Option.some.injEq, Prod.mk.injEq] at H
     obtain ⟨rfl, rfl⟩ := H
     go_wp2
     go_ret2
     exact ⟨by first | rfl | (simp [errW_none, errW_some] <;> rfl) | (simp [*, errW_none, errW_some] <;> rfl) | (simp (disch := first | assumption | omega) only [Int.tdiv_eq_ediv_of_nonneg, Int.tmod_eq_emod_of_nonneg]; rfl), aH HB⟩
    ·replace c8 := Bool.eq_false_iff.mpr c8
     subst c8
     have H1 : (if a0_0 ≥ a1 then (some (0, 3)) else ((bits_Div64.f kj3 a0_0 a0_1 a1).bind fun bt196 => ((exact_above.f bt196.1 bt196.2 a1 a2).bind fun t198 => (if t198 = true then (if (IntKind.u64.wrap (bt196.1 + 1)) = 0 then (some (0, 3)) else (some (IntKind.u64.wrap (bt196.1 + 1), 0))) else (some (bt196.1, 0)))))) = some (r1, r2) := by rw [if_neg (show ¬ (false = true) by decide)] at H; exact H
     clear H
     have H := H1
     clear H1
     by_cases c9 : a0_0 ≥ a1
     ·rw [if_pos c9] at H
      have c9b0 : decide (a1 ≤ a0_0) = true := decide_eq_true c9
      clear c9
      simp only [Option.some.injEq, Prod.mk.injEq] at H
      obtain ⟨rfl, rfl⟩ := H
      have hcz10_0 : wc.cell? ⟨gb195, 0, none⟩ = some (.int .u64 a0_0) := lc BK195 0
      have hcz10_1 : wc.cell? ⟨gb195, 1, none⟩ = some (.int .u64 a0_1) := lc BK195 1
      have hfz10_0 := fz BK195 0
      have hfz10_1 := fz BK195 1
      go_wp2
      go_ret2
      exact ⟨by first | rfl | (simp [errW_none, errW_some] <;> rfl) | (simp [*, errW_none, errW_some] <;> rfl) | (simp (disch := first | assumption | omega) only [Int.tdiv_eq_ediv_of_nonneg, Int.tmod_eq_emod_of_nonneg]; rfl), aH HB⟩
     ·rw [if_neg c9] at H
      have c9b0 : decide (a1 ≤ a0_0) = false := decide_eq_false c9
      clear c9
      replace H := Option.bind_eq_some_iff.mp H
      obtain ⟨⟨t196, t197⟩, A110, H⟩ := H
      replace H : ((exact_above.f t196 t197 a1 a2).bind fun t198 => (if t198 = true then (if (IntKind.u64.wrap (t196 + 1)) = 0 then (some (0, 3)) else (some (IntKind.u64.wrap (t196 + 1), 0))) else (some (t196, 0)))) = some (r1, r2) := H
      have A11 := Aside0.mk A110
      clear A110
      replace H := Option.bind_eq_some_iff.mp H
      obtain ⟨t198, A120, H⟩ := H
      replace H : (if t198 = true then (if (IntKind.u64.wrap (t196 + 1)) = 0 then (some (0, 3)) else (some (IntKind.u64.wrap (t196 + 1), 0))) else (some (t196, 0))) = some (r1, r2) := H
      have A12 := Aside0.mk A120
      clear A120
      by_cases c13 : t198 = true
      ·subst c13
       have H1 : (if (IntKind.u64.wrap (t196 + 1)) = 0 then (some (0, 3)) else (some (IntKind.u64.wrap (t196 + 1), 0))) = some (r1, r2) := by rw [if_pos rfl] at H; exact H
       clear H
       have H := H1
       clear H1
       by_cases c14 : (IntKind.u64.wrap (t196 + 1)) = 0
       ·rw [if_pos c14] at H
        have c14b0 : ((IntKind.u64.wrap (t196 + 1)) == 0) = true := beq_iff_eq.mpr c14
        have c14b1 : ((IntKind.u64.wrap (t196 + 1)) != 0) = false := bne_eq_false_iff_eq.mpr c14
        clear c14
        simp only [Option.some.injEq, Prod.mk.injEq] at H
        obtain ⟨rfl, rfl⟩ := H
        have hcz15_0 : wc.cell? ⟨gb195, 0, none⟩ = some (.int .u64 a0_0) := lc BK195 0
        have hcz15_1 : wc.cell? ⟨gb195, 1, none⟩ = some (.int .u64 a0_1) := lc BK195 1
        have hfz15_0 := fz BK195 0
        have hfz15_1 := fz BK195 1
        go_wp2_with (first | ((with_reducible refine gate_callee (f := 59) rfl ?_); refine goA (some 30) Try.func59 #[.int .u64 a0_0, .int .u64 a0_1, .int .u64 a1] ?_; (with_reducible refine (bits_Div64.calls kj3 a0_0 a0_1 a1 t196 t197 _ A11.out).mono ?_); rintro e w' ⟨rfl, ⟨nd, rfl⟩⟩; refine ⟨_, rfl, ?_⟩) | ((with_reducible refine gate_callee (f := 60) rfl ?_); refine goA (some 37) Try.func60 #[.int .u64 t196, .int .u64 t197, .int .u64 a1, .int .i64 a2] ?_; (with_reducible refine (exact_above.calls t196 t197 a1 a2 true _ A12.out).mono ?_); rintro e w' ⟨rfl, ⟨nd, rfl⟩⟩; refine ⟨_, rfl, ?_⟩))
        go_ret2
        exact ⟨by first | rfl | (simp [errW_none, errW_some] <;> rfl) | (simp [*, errW_none, errW_some] <;> rfl) | (simp (disch := first | assumption | omega) only [Int.tdiv_eq_ediv_of_nonneg, Int.tmod_eq_emod_of_nonneg]; rfl), aH HB⟩
       ·rw [if_neg c14] at H
        have c14b0 : ((IntKind.u64.wrap (t196 + 1)) == 0) = false := beq_eq_false_iff_ne.mpr c14
        have c14b1 : ((IntKind.u64.wrap (t196 + 1)) != 0) = true := bne_iff_ne.mpr c14
        simp only [Option.some.injEq, Prod.mk.injEq] at H
        obtain ⟨rfl, rfl⟩ := H
        have hcz16_0 : wc.cell? ⟨gb195, 0, none⟩ = some (.int .u64 a0_0) := lc BK195 0
        have hcz16_1 : wc.cell? ⟨gb195, 1, none⟩ = some (.int .u64 a0_1) := lc BK195 1
        have hfz16_0 := fz BK195 0
        have hfz16_1 := fz BK195 1
        go_wp2_with (first | ((with_reducible refine gate_callee (f := 59) rfl ?_); refine goA (some 30) Try.func59 #[.int .u64 a0_0, .int .u64 a0_1, .int .u64 a1] ?_; (with_reducible refine (bits_Div64.calls kj3 a0_0 a0_1 a1 t196 t197 _ A11.out).mono ?_); rintro e w' ⟨rfl, ⟨nd, rfl⟩⟩; refine ⟨_, rfl, ?_⟩) | ((with_reducible refine gate_callee (f := 60) rfl ?_); refine goA (some 37) Try.func60 #[.int .u64 t196, .int .u64 t197, .int .u64 a1, .int .i64 a2] ?_; (with_reducible refine (exact_above.calls t196 t197 a1 a2 true _ A12.out).mono ?_); rintro e w' ⟨rfl, ⟨nd, rfl⟩⟩; refine ⟨_, rfl, ?_⟩))
        go_ret2
        exact ⟨by first | rfl | (simp [errW_none, errW_some] <;> rfl) | (simp [*, errW_none, errW_some] <;> rfl) | (simp (disch := first | assumption | omega) only [Int.tdiv_eq_ediv_of_nonneg, Int.tmod_eq_emod_of_nonneg]; rfl), aH HB⟩
      ·replace c13 := Bool.eq_false_iff.mpr c13
       subst c13
       have H1 : (some (t196, 0)) = some (r1, r2) := by rw [if_neg (show ¬ (false = true) by decide)] at H; exact H
       clear H
       have H := H1
       clear H1
       simp only [Option.some.injEq, Prod.mk.injEq] at H
       obtain ⟨rfl, rfl⟩ := H
       have hcz17_0 : wc.cell? ⟨gb195, 0, none⟩ = some (.int .u64 a0_0) := lc BK195 0
       have hcz17_1 : wc.cell? ⟨gb195, 1, none⟩ = some (.int .u64 a0_1) := lc BK195 1
       have hfz17_0 := fz BK195 0
       have hfz17_1 := fz BK195 1
       go_wp2_with (first | ((with_reducible refine gate_callee (f := 59) rfl ?_); refine goA (some 30) Try.func59 #[.int .u64 a0_0, .int .u64 a0_1, .int .u64 a1] ?_; (with_reducible refine (bits_Div64.calls kj3 a0_0 a0_1 a1 t196 t197 _ A11.out).mono ?_); rintro e w' ⟨rfl, ⟨nd, rfl⟩⟩; refine ⟨_, rfl, ?_⟩) | ((with_reducible refine gate_callee (f := 60) rfl ?_); refine goA (some 37) Try.func60 #[.int .u64 t196, .int .u64 t197, .int .u64 a1, .int .i64 a2] ?_; (with_reducible refine (exact_above.calls t196 t197 a1 a2 false _ A12.out).mono ?_); rintro e w' ⟨rfl, ⟨nd, rfl⟩⟩; refine ⟨_, rfl, ?_⟩))
       go_ret2
       exact ⟨by first | rfl | (simp [errW_none, errW_some] <;> rfl) | (simp [*, errW_none, errW_some] <;> rfl) | (simp (disch := first | assumption | omega) only [Int.tdiv_eq_ediv_of_nonneg, Int.tmod_eq_emod_of_nonneg]; rfl), aH HB⟩

end Go.Proofs.Yteoieencagcgdaa.PX
end
section
namespace Go.Proofs.Yteoieencagcgdaa.PX
open Go.RowKit Go.Proofs.YteoieencagcgdaaW.PrintWords Go.Proofs.YteoieencagcgdaaW.PrintLast Go.Proofs.YteoieencagcgdaaW.PrintMore
attribute [local go_sem] max2_int min2_int max_two min_two max_three min_three max_four min_four
set_option linter.unusedVariables false
set_option linter.unusedSimpArgs false

def bits_Mul64.f (a0 : Int) (a1 : Int) : Option (Int × Int) := some (IntKind.u64.wrap ((IntKind.u64.wrap ((IntKind.u64.wrap ((a0 / 4294967296) * (a1 / 4294967296))) + ((IntKind.u64.wrap ((IntKind.u64.wrap ((a0 / 4294967296) * (Go.bits .and .u64 a1 4294967295))) + ((IntKind.u64.wrap ((Go.bits .and .u64 a0 4294967295) * (Go.bits .and .u64 a1 4294967295))) / 4294967296))) / 4294967296))) + ((IntKind.u64.wrap ((Go.bits .and .u64 (IntKind.u64.wrap ((IntKind.u64.wrap ((a0 / 4294967296) * (Go.bits .and .u64 a1 4294967295))) + ((IntKind.u64.wrap ((Go.bits .and .u64 a0 4294967295) * (Go.bits .and .u64 a1 4294967295))) / 4294967296))) 4294967295) + (IntKind.u64.wrap ((Go.bits .and .u64 a0 4294967295) * (a1 / 4294967296))))) / 4294967296)), IntKind.u64.wrap (a0 * a1))
set_option maxHeartbeats 8000000 in
set_option maxRecDepth 100000 in
theorem bits_Mul64.calls (a0 : Int) (a1 : Int) (r1 : Int) (r2 : Int) (w : World) (h : bits_Mul64.f a0 a1 = some (r1, r2)) :
   Calls Try.prog 61 #[.int .u64 a0, .int .u64 a1] w fun e w' => e = .returned (.tuple #[.int .u64 r1, .int .u64 r2]) ∧ Drawn0 w w' := by
  have H : (some (IntKind.u64.wrap ((IntKind.u64.wrap ((IntKind.u64.wrap ((a0 / 4294967296) * (a1 / 4294967296))) + ((IntKind.u64.wrap ((IntKind.u64.wrap ((a0 / 4294967296) * (Go.bits .and .u64 a1 4294967295))) + ((IntKind.u64.wrap ((Go.bits .and .u64 a0 4294967295) * (Go.bits .and .u64 a1 4294967295))) / 4294967296))) / 4294967296))) + ((IntKind.u64.wrap ((Go.bits .and .u64 (IntKind.u64.wrap ((IntKind.u64.wrap ((a0 / 4294967296) * (Go.bits .and .u64 a1 4294967295))) + ((IntKind.u64.wrap ((Go.bits .and .u64 a0 4294967295) * (Go.bits .and .u64 a1 4294967295))) / 4294967296))) 4294967295) + (IntKind.u64.wrap ((Go.bits .and .u64 a0 4294967295) * (a1 / 4294967296))))) / 4294967296)), IntKind.u64.wrap (a0 * a1))) = some (r1, r2) := h
  clear h
  simp only [Option.some.injEq, Prod.mk.injEq] at H
  obtain ⟨rfl, rfl⟩ := H
  go_enter Try.func61, Try.ntmps61
  go_wp2
  go_ret2
  exact ⟨by first | rfl | (simp; done) | (simp [*]; done), by repeat (first | exact Drawn0.refl _ | apply Drawn0.step)⟩

end Go.Proofs.Yteoieencagcgdaa.PX
end
section
namespace Go.Proofs.Yteoieencagcgdaa.PX
open Go.RowKit Go.Proofs.YteoieencagcgdaaW.PrintWords Go.Proofs.YteoieencagcgdaaW.PrintLast Go.Proofs.YteoieencagcgdaaW.PrintMore
attribute [local go_sem] max2_int min2_int max_two min_two max_three min_three max_four min_four
set_option linter.unusedVariables false
set_option linter.unusedSimpArgs false

def exact_Mul.f (a0 : Int) (a1 : Int) : Option (Int × Int) := (bits_Mul64.f a0 a1).bind fun bt200 => (some (bt200.1, bt200.2))
set_option maxHeartbeats 8000000 in
set_option maxRecDepth 100000 in
theorem exact_Mul.calls (a0 : Int) (a1 : Int) (r1 : Int) (r2 : Int) (w : World) (h : exact_Mul.f a0 a1 = some (r1, r2)) :
   Calls Try.prog 52 #[.int .u64 a0, .int .u64 a1] w fun e w' => e = .returned (.agg #[.int .u64 r1, .int .u64 r2]) ∧ Below w.heap.size w w' := by
  have hu89 := Try.underlying89
  have HB := Aside0.mk (Below.refl w.heap.size w)
  have H : ((bits_Mul64.f a0 a1).bind fun bt200 => (some (bt200.1, bt200.2))) = some (r1, r2) := h
  clear h
  replace H := Option.bind_eq_some_iff.mp H
  obtain ⟨⟨t200, t201⟩, A30, H⟩ := H
  replace H : (some (t200, t201)) = some (r1, r2) := H
  have A3 := Aside0.mk A30
  clear A30
  simp only [Option.some.injEq, Prod.mk.injEq] at H
  obtain ⟨rfl, rfl⟩ := H
  go_enter Try.func52, Try.ntmps52
  go_wp2_with (first | ((with_reducible refine gate_dst (N := 4) rfl ?_); refine boxA (N := 4) (cs := #[.int .u64 0, .int .u64 0]) (t := 89) ?_; intro gb199 hg w4 hbox hb; have n0_ := hB HB hb; have n1_ := Aside0.mk (hbox); have n2_ := gW hg HB; have n3_ := gW hg HB; clear HB; have HB := n0_; have BK199 := n1_; have GW199 := n2_; have GE199 := n3_; clear n0_ n1_ n2_ n3_; clear hb hbox hg) | ((with_reducible refine gate_callee (f := 61) rfl ?_); refine goA (some 10) Try.func61 #[.int .u64 a0, .int .u64 a1] ?_; (with_reducible refine (bits_Mul64.calls a0 a1 t200 t201 _ A3.out).mono ?_); rintro e w' ⟨rfl, ⟨nd, rfl⟩⟩; refine ⟨_, rfl, ?_⟩; (try (rw [drewN_self w4]; generalize hq_ : World.drewN w4 _ = w4; have n0_ : Aside0 (w4.heap[gb199]? = some (.cells #[.int .u64 0, .int .u64 0] 89 (0, 0))) := ⟨by rw [← hq_]; exact (aB BK199)⟩; have n1_ : Aside0 (Below w.heap.size w w4) := ⟨by rw [← hq_]; exact (aH HB)⟩; clear BK199 HB hq_; have BK199 := n0_; have HB := n1_; clear n0_ n1_)); have hcz5_0 : w4.cell? ⟨gb199, 0, none⟩ = some (.int .u64 0) := lc BK199 0; have hcz5_1 : w4.cell? ⟨gb199, 1, none⟩ = some (.int .u64 0) := lc BK199 1; have hfz5_0 := fz BK199 0; have hfz5_1 := fz BK199 1))
  refine bodyPost_ret (results_cell_row rfl _ _ gb199 89 #[.int .u64 t200, .int .u64 t201] (0, 0) _ rfl (by (with_reducible repeat (first | refine blk_drewN ?_ _ | refine blk_drew ?_ | refine blk_alloc ?_ _)); refine blk_put (cs := #[.int .u64 t200, .int .u64 0]) ?_ 1 _ rfl; (with_reducible repeat (first | refine blk_drewN ?_ _ | refine blk_drew ?_ | refine blk_alloc ?_ _)); refine blk_put (cs := #[.int .u64 0, .int .u64 0]) ?_ 0 _ rfl; (with_reducible repeat (first | refine blk_drewN ?_ _ | refine blk_drew ?_ | refine blk_alloc ?_ _)); exact BK199.out) Try.underlying89 rfl (by kernel_rfl)) rfl ?_
  exact ⟨by first | rfl | (simp [errW_none, errW_some] <;> rfl) | (simp [*, errW_none, errW_some] <;> rfl) | (simp (disch := first | assumption | omega) only [Int.tdiv_eq_ediv_of_nonneg, Int.tmod_eq_emod_of_nonneg]; rfl), aH HB⟩

end Go.Proofs.Yteoieencagcgdaa.PX
end
section
namespace Go.Proofs.Yteoieencagcgdaa.PX
open Go.RowKit Go.Proofs.YteoieencagcgdaaW.PrintWords Go.Proofs.YteoieencagcgdaaW.PrintLast Go.Proofs.YteoieencagcgdaaW.PrintMore
attribute [local go_sem] max2_int min2_int max_two min_two max_three min_three max_four min_four
set_option linter.unusedVariables false
set_option linter.unusedSimpArgs false

def exact_MulDiv.f (k : Nat) (a0 : Int) (a1 : Int) (a2 : Int) (a3 : Int) : Option (Int × Int) := (exact_Mul.f a0 a1).bind fun bt202 => ((exact_Div.f k bt202.1 bt202.2 a2 a3).bind fun bt204 => (some (bt204.1, bt204.2)))
set_option maxHeartbeats 8000000 in
set_option maxRecDepth 100000 in
theorem exact_MulDiv.calls (k : Nat) (a0 : Int) (a1 : Int) (a2 : Int) (a3 : Int) (r1 : Int) (r2 : Int) (w : World) (h : exact_MulDiv.f k a0 a1 a2 a3 = some (r1, r2)) :
   Calls Try.prog 41 #[.int .u64 a0, .int .u64 a1, .int .u64 a2, .int .i64 a3] w fun e w' => e = .returned (.tuple #[.int .u64 r1, .int .i64 r2]) ∧ Below w.heap.size w w' := by
  have HB := Aside0.mk (Below.refl w.heap.size w)
  have H : ((exact_Mul.f a0 a1).bind fun bt202 => ((exact_Div.f k bt202.1 bt202.2 a2 a3).bind fun bt204 => (some (bt204.1, bt204.2)))) = some (r1, r2) := h
  clear h
  replace H := Option.bind_eq_some_iff.mp H
  obtain ⟨⟨t202, t203⟩, A50, H⟩ := H
  replace H : ((exact_Div.f k t202 t203 a2 a3).bind fun bt204 => (some (bt204.1, bt204.2))) = some (r1, r2) := H
  have A5 := Aside0.mk A50
  clear A50
  replace H := Option.bind_eq_some_iff.mp H
  obtain ⟨⟨t204, t205⟩, A60, H⟩ := H
  replace H : (some (t204, t205)) = some (r1, r2) := H
  have A6 := Aside0.mk A60
  clear A60
  simp only [Option.some.injEq, Prod.mk.injEq] at H
  obtain ⟨rfl, rfl⟩ := H
  go_enter Try.func41, Try.ntmps41
  go_wp2_with (first | ((with_reducible refine gate_callee (f := 52) rfl ?_); refine goA (some 12) Try.func52 #[.int .u64 a0, .int .u64 a1] ?_; (with_reducible refine (exact_Mul.calls a0 a1 t202 t203 _ A5.out).mono ?_); rintro e w7 ⟨rfl, hb⟩; refine ⟨_, rfl, ?_⟩; have n0_ := hB HB hb; clear HB; have HB := n0_; clear n0_; clear hb) | ((with_reducible refine gate_callee (f := 51) rfl ?_); refine goA (some 15) Try.func51 #[.agg #[.int .u64 t202, .int .u64 t203], .int .u64 a2, .int .i64 a3] ?_; (with_reducible refine (exact_Div.calls k t202 t203 a2 a3 t204 t205 _ A6.out).mono ?_); rintro e w8 ⟨rfl, hb⟩; refine ⟨_, rfl, ?_⟩; have n0_ := hB HB hb; clear HB; have HB := n0_; clear n0_; clear hb))
  go_ret2
  exact ⟨by first | rfl | (simp [errW_none, errW_some] <;> rfl) | (simp [*, errW_none, errW_some] <;> rfl) | (simp (disch := first | assumption | omega) only [Int.tdiv_eq_ediv_of_nonneg, Int.tmod_eq_emod_of_nonneg]; rfl), aH HB⟩

end Go.Proofs.Yteoieencagcgdaa.PX
end
section
namespace Go.Proofs.Yteoieencagcgdaa.PX
open Go.RowKit Go.Proofs.YteoieencagcgdaaW.PrintWords Go.Proofs.YteoieencagcgdaaW.PrintLast Go.Proofs.YteoieencagcgdaaW.PrintMore
attribute [local go_sem] max2_int min2_int max_two min_two max_three min_three max_four min_four
set_option linter.unusedVariables false
set_option linter.unusedSimpArgs false

def bits_Rem64.f (k : Nat) (a0 : Int) (a1 : Int) (a2 : Int) : Option (Int) := if a2 = 0 then (none) else ((bits_Div64.f k (Int.tmod a0 a2) a1 a2).bind fun bt227 => (some bt227.2))
set_option maxHeartbeats 8000000 in
set_option maxRecDepth 100000 in
theorem bits_Rem64.calls (k : Nat) (a0 : Int) (a1 : Int) (a2 : Int) (r : Int) (w : World) (h : bits_Rem64.f k a0 a1 a2 = some r) :
   Calls Try.prog 53 #[.int .u64 a0, .int .u64 a1, .int .u64 a2] w fun e w' => e = .returned (.int .u64 r) ∧ Drawn0 w w' := by
  have H : (if a2 = 0 then (none) else ((bits_Div64.f k (Int.tmod a0 a2) a1 a2).bind fun bt227 => (some bt227.2))) = some r := h
  clear h
  by_cases c4 : a2 = 0
  ·rw [if_pos c4] at H
   exact absurd H (by simp)
  ·rw [if_neg c4] at H
   have c4b0 : (a2 == 0) = false := beq_eq_false_iff_ne.mpr c4
   have c4b1 : (a2 != 0) = true := bne_iff_ne.mpr c4
   replace H := Option.bind_eq_some_iff.mp H
   obtain ⟨⟨t227, t228⟩, A50, H⟩ := H
   replace H : (some t228) = some r := H
   have A5 := Aside0.mk A50
   clear A50
   obtain rfl := Option.some.inj H
   simp only [Option.some.injEq, Prod.mk.injEq] at H
   obtain ⟨rfl⟩ := H
   go_enter Try.func53, Try.ntmps53
   go_wp2_with (first | ((with_reducible refine gate_callee (f := 59) rfl ?_); refine goA (some 15) Try.func59 #[.int .u64 (Int.tmod a0 a2), .int .u64 a1, .int .u64 a2] ?_; (with_reducible refine (bits_Div64.calls k (Int.tmod a0 a2) a1 a2 t227 t228 _ A5.out).mono ?_); rintro e w' ⟨rfl, ⟨nd, rfl⟩⟩; refine ⟨_, rfl, ?_⟩))
   go_ret
   exact ⟨by first | rfl | (simp; done) | (simp [*]; done), by repeat (first | exact Drawn0.refl _ | apply Drawn0.step)⟩

end Go.Proofs.Yteoieencagcgdaa.PX
end
section
namespace Go.Proofs.Yteoieencagcgdaa.PX
open Go.RowKit Go.Proofs.YteoieencagcgdaaW.PrintWords Go.Proofs.YteoieencagcgdaaW.PrintLast Go.Proofs.YteoieencagcgdaaW.PrintMore
attribute [local go_sem] max2_int min2_int max_two min_two max_three min_three max_four min_four
set_option linter.unusedVariables false
set_option linter.unusedSimpArgs false

def exact_MulMod.f (k : Nat) (a0 : Int) (a1 : Int) (a2 : Int) : Option (Int) := if a2 = 0 then (some 0) else ((exact_Mul.f a0 a1).bind fun bt229 => ((bits_Rem64.f k bt229.1 bt229.2 a2).bind fun t232 => (some t232)))
set_option maxHeartbeats 8000000 in
set_option maxRecDepth 100000 in
theorem exact_MulMod.calls (k : Nat) (a0 : Int) (a1 : Int) (a2 : Int) (r : Int) (w : World) (h : exact_MulMod.f k a0 a1 a2 = some r) :
   Calls Try.prog 42 #[.int .u64 a0, .int .u64 a1, .int .u64 a2] w fun e w' => e = .returned (.int .u64 r) ∧ Below w.heap.size w w' := by
  have hu89 := Try.underlying89
  have HB := Aside0.mk (Below.refl w.heap.size w)
  have H : (if a2 = 0 then (some 0) else ((exact_Mul.f a0 a1).bind fun bt229 => ((bits_Rem64.f k bt229.1 bt229.2 a2).bind fun t232 => (some t232)))) = some r := h
  clear h
  by_cases c4 : a2 = 0
  ·rw [if_pos c4] at H
   have c4b0 : (a2 == 0) = true := beq_iff_eq.mpr c4
   have c4b1 : (a2 != 0) = false := bne_eq_false_iff_eq.mpr c4
   clear c4
   obtain rfl := Option.some.inj H
   simp only [Option.some.injEq, Prod.mk.injEq] at H
   obtain ⟨rfl⟩ := H
   go_enter Try.func42, Try.ntmps42
   go_wp2
   go_ret
   exact ⟨by first | rfl | (simp [errW_none, errW_some] <;> rfl) | (simp [*, errW_none, errW_some] <;> rfl) | (simp (disch := first | assumption | omega) only [Int.tdiv_eq_ediv_of_nonneg, Int.tmod_eq_emod_of_nonneg]; rfl), aH HB⟩
  ·rw [if_neg c4] at H
   have c4b0 : (a2 == 0) = false := beq_eq_false_iff_ne.mpr c4
   have c4b1 : (a2 != 0) = true := bne_iff_ne.mpr c4
   replace H := Option.bind_eq_some_iff.mp H
   obtain ⟨⟨t229, t230⟩, A50, H⟩ := H
   replace H : ((bits_Rem64.f k t229 t230 a2).bind fun t232 => (some t232)) = some r := H
   have A5 := Aside0.mk A50
   clear A50
   replace H := Option.bind_eq_some_iff.mp H
   obtain ⟨t232, A60, H⟩ := H
   replace H : (some t232) = some r := H
   have A6 := Aside0.mk A60
   clear A60
   obtain rfl := Option.some.inj H
   simp only [Option.some.injEq, Prod.mk.injEq] at H
   obtain ⟨rfl⟩ := H
   go_enter Try.func42, Try.ntmps42
   go_wp2_with (first | ((with_reducible refine gate_callee (f := 52) rfl ?_); refine goA (some 12) Try.func52 #[.int .u64 a0, .int .u64 a1] ?_; (with_reducible refine (exact_Mul.calls a0 a1 t229 t230 _ A5.out).mono ?_); rintro e w7 ⟨rfl, hb⟩; refine ⟨_, rfl, ?_⟩; have n0_ := hB HB hb; clear HB; have HB := n0_; clear n0_; clear hb) | ((with_reducible refine gate_dst (N := 7) rfl ?_); refine boxA (N := 7) (cs := #[.int .u64 0, .int .u64 0]) (t := 89) ?_; intro gb231 hg w8 hbox hb; have n0_ := hB HB hb; have n1_ := Aside0.mk (hbox); have n2_ := gW hg HB; have n3_ := gW hg HB; clear HB; have HB := n0_; have BK231 := n1_; have GW231 := n2_; have GE231 := n3_; clear n0_ n1_ n2_ n3_; clear hb hbox hg; have hcz9_0 : w8.cell? ⟨gb231, 0, none⟩ = some (.int .u64 0) := lc BK231 0; have hcz9_1 : w8.cell? ⟨gb231, 1, none⟩ = some (.int .u64 0) := lc BK231 1; have hfz9_0 := fz BK231 0; have hfz9_1 := fz BK231 1) | ((with_reducible refine gate_callee (f := 53) rfl ?_); refine goA (some 18) Try.func53 #[.int .u64 t229, .int .u64 t230, .int .u64 a2] ?_; (with_reducible refine (bits_Rem64.calls k t229 t230 a2 t232 _ A6.out).mono ?_); rintro e w' ⟨rfl, ⟨nd, rfl⟩⟩; refine ⟨_, rfl, ?_⟩))
   go_ret
   exact ⟨by first | rfl | (simp [errW_none, errW_some] <;> rfl) | (simp [*, errW_none, errW_some] <;> rfl) | (simp (disch := first | assumption | omega) only [Int.tdiv_eq_ediv_of_nonneg, Int.tmod_eq_emod_of_nonneg]; rfl), aH HB⟩

end Go.Proofs.Yteoieencagcgdaa.PX
end
section
namespace Go.Proofs.Yteoieencagcgdaa.PX
open Go.RowKit Go.Proofs.YteoieencagcgdaaW.PrintWords Go.Proofs.YteoieencagcgdaaW.PrintLast Go.Proofs.YteoieencagcgdaaW.PrintMore
attribute [local go_sem] max2_int min2_int max_two min_two max_three min_three max_four min_four
set_option linter.unusedVariables false
set_option linter.unusedSimpArgs false

structure SortW (w0 : World) (g n : Nat) (A : Nat → Nat) (W : World) : Prop where
  row : ∃ cur : Array Value, cur.size = n ∧ W.heap[g]? = some (.cells cur 3 (0, 0)) ∧ ∀ i, i < n → cur[i]? = some (.int .i64 (A i))
  keep : KeepBut w0 W g none
  os : W.os = w0.os
  tape : W.tape = w0.tape
  output : W.output = w0.output
def swp (A : Nat → Nat) (i j : Nat) : Nat → Nat := fun k => if k = i then A j else if k = j then A i else A k
theorem SortW.cell {w0 : World} {g n : Nat} {A : Nat → Nat} {W : World} (h : SortW w0 g n A W) (i : Nat) (hi : i < n) : W.cell? ⟨g, i, none⟩ = some (.int .i64 (A i)) := by
  obtain ⟨cur, hs, hb, hc⟩ := h.row
  exact (blk_cell hb i).trans (hc i hi)
theorem SortW.free {w0 : World} {g n : Nat} {A : Nat → Nat} {W : World} (h : SortW w0 g n A W) (i : Nat) : W.frozen? ⟨g, i, none⟩ = false := by
  obtain ⟨cur, hs, hb, hc⟩ := h.row
  exact blk_frozen hb i
theorem SortW.drewN {w0 : World} {g n : Nat} {A : Nat → Nat} {W : World} (h : SortW w0 g n A W) (m : Nat) : SortW w0 g n A (W.drewN m) := ⟨h.row, keep_drewN h.keep m, h.os, h.tape, h.output⟩
theorem SortW.below {w0 : World} {g n : Nat} {A : Nat → Nat} {W W1 : World} (h : SortW w0 g n A W) (hb : Below W.heap.size W W1) : SortW w0 g n A W1 := by
  obtain ⟨cur, hs, hc, hr⟩ := h.row
  exact ⟨⟨cur, hs, blk_below hc hb, hr⟩, h.keep.trans (KeepBut.of_below hb g none) (.inl rfl), hb.os.trans h.os, hb.tape.trans h.tape, hb.output.trans h.output⟩
theorem SortW.other {w0 : World} {g n : Nat} {A : Nat → Nat} {W : World} (h : SortW w0 g n A W) {a : Addr} {v : Value} (hc : w0.cell? a = some v) (hne : a.block ≠ g) : W.cell? a = some v := keep_cell h.keep hc hne
theorem SortW.set2 {w0 : World} {g n : Nat} {A : Nat → Nat} {W : World} (h : SortW w0 g n A W) (i j : Nat) (hi : i < n) (hj : j < n) : SortW w0 g n (swp A i j) ((W.setCell ⟨g, i, none⟩ (.int .i64 (A j))).setCell ⟨g, j, none⟩ (.int .i64 (A i))) := by
  obtain ⟨cur, hs, hb, hc⟩ := h.row
  refine ⟨⟨_, ?_, blk_set (blk_set hb i _) j _, ?_⟩, (h.keep.set_ i _).set_ j _, h.os, h.tape, h.output⟩
  · simp [hs]
  · intro k hk
    unfold swp
    by_cases e1 : j = k
    · subst e1
      rw [Array.getElem?_setIfInBounds_self_of_lt (by simp [hs]; omega)]
      by_cases e2 : j = i
      · rw [if_pos e2, e2]
      · rw [if_neg e2, if_pos rfl]
    · rw [Array.getElem?_setIfInBounds_ne e1]
      by_cases e2 : i = k
      · subst e2
        rw [Array.getElem?_setIfInBounds_self_of_lt (by omega), if_pos rfl]
      · rw [Array.getElem?_setIfInBounds_ne e2, hc k hk, if_neg (fun h => e2 h.symm), if_neg (fun h => e1 h.symm)]
structure RestW (w0 : World) (g n B h : Nat) (R : Nat → Int) : Prop where
  box : w0.cell? ⟨B, 0, none⟩ = some (.slice (some ⟨h, 0, none⟩) n n)
  rest : ∀ k, k < n → w0.cell? ⟨h, k, none⟩ = some (.int .u64 (R k))
  neB : B ≠ g
  neh : h ≠ g
  lt : n < 4611686018427387904
def rkV (g n B : Nat) : Value := .agg #[.slice (some ⟨g, 0, none⟩) n n, .func (.func 44) #[] #[.pointer (some ⟨B, 0, none⟩)]]
set_option maxHeartbeats 4000000 in
set_option maxRecDepth 100000 in
theorem share1_calls {w0 : World} {g n B h : Nat} {R : Nat → Int} {A : Nat → Nat} {W : World} (hR : RestW w0 g n B h R) (hS : SortW w0 g n A W) (a b : Nat) (ha : a < n) (hb : b < n) :
    Calls Try.prog 44 #[.int .i64 a, .int .i64 b, .pointer (some ⟨B, 0, none⟩)] W fun e w' => e = .returned (.bool (decide (R b < R a))) ∧ ∃ q, w' = W.drewN q := by
  have hx := hS.other hR.box hR.neB
  have ca := hS.other (hR.rest a ha) hR.neh
  have cb := hS.other (hR.rest b hb) hR.neh
  have hlt := hR.lt
  have HS := Aside0.mk hS
  clear hS
  go_enter Try.func44, Try.ntmps44
  go_wp2
  go_quiet (fail)
  go_wp2
  go_ret
  exact ⟨rfl, nq, rfl⟩
set_option maxHeartbeats 4000000 in
set_option maxRecDepth 100000 in
theorem swap_calls {w0 : World} {g n B : Nat} {A : Nat → Nat} {W : World} (hlt : n < 4611686018427387904) (hS : SortW w0 g n A W) (i j : Nat) (hi : i < n) (hj : j < n) :
    Calls Try.prog 92 #[rkV g n B, .int .i64 i, .int .i64 j] W fun e w' => e = .returned (.tuple #[]) ∧ SortW w0 g n (swp A i j) w' := by
  unfold rkV
  have hS1 := hS.below (below_alloc (Below.refl _ _) (.cells #[.slice (some ⟨g, 0, none⟩) n n, .func (.func 44) #[] #[.pointer (some ⟨B, 0, none⟩)]] 79 (0, 0)))
  have bx := blk_cell (blk_new W (.cells #[.slice (some ⟨g, 0, none⟩) n n, .func (.func 44) #[] #[.pointer (some ⟨B, 0, none⟩)]] 79 (0, 0))) 0
  rw [show (#[.slice (some ⟨g, 0, none⟩) n n, .func (.func 44) #[] #[.pointer (some ⟨B, 0, none⟩)]] : Array Value)[0]? = some (.slice (some ⟨g, 0, none⟩) n n) from rfl] at bx
  have hgW : W.heap.size ≠ g := by
    obtain ⟨cur, _, hb, _⟩ := hS.row
    have := blk_lt hb
    omega
  have bx2 := blk_cell (blk_far (blk_new W (.cells #[.slice (some ⟨g, 0, none⟩) n n, .func (.func 44) #[] #[.pointer (some ⟨B, 0, none⟩)]] 79 (0, 0))) (p := ⟨g, i, none⟩) hgW (.int .i64 (A j))) 0
  rw [show (#[.slice (some ⟨g, 0, none⟩) n n, .func (.func 44) #[] #[.pointer (some ⟨B, 0, none⟩)]] : Array Value)[0]? = some (.slice (some ⟨g, 0, none⟩) n n) from rfl] at bx2
  have ci := hS1.cell i hi
  have cj := hS1.cell j hj
  have fi := hS1.free i
  have fj := hS1.free j
  obtain ⟨v', hy'⟩ := cell?_setCell_some (w := W.alloc (.cells #[.slice (some ⟨g, 0, none⟩) n n, .func (.func 44) #[] #[.pointer (some ⟨B, 0, none⟩)]] 79 (0, 0))) (p := ⟨g, i, none⟩) (x := .int .i64 (A j)) (q := ⟨g, j, none⟩) cj
  have HS := Aside0.mk hS1
  clear hS hS1
  go_enter Try.func92, Try.ntmps92
  go_wp2
  go_region
  all_goals (try go_wp2)
  all_goals go_end0
  all_goals exact ⟨rfl, (HS.out.set2 i j hi hj).drewN 1⟩
set_option maxHeartbeats 4000000 in
set_option maxRecDepth 100000 in
theorem len_calls {w0 : World} {g n B : Nat} {A : Nat → Nat} {W : World} (hS : SortW w0 g n A W) :
    Calls Try.prog 90 #[rkV g n B] W fun e w' => e = .returned (.int .i64 n) ∧ SortW w0 g n A w' := by
  unfold rkV
  have hS1 := hS.below (below_alloc (Below.refl _ _) (.cells #[.slice (some ⟨g, 0, none⟩) n n, .func (.func 44) #[] #[.pointer (some ⟨B, 0, none⟩)]] 79 (0, 0)))
  have bx := blk_cell (blk_new W (.cells #[.slice (some ⟨g, 0, none⟩) n n, .func (.func 44) #[] #[.pointer (some ⟨B, 0, none⟩)]] 79 (0, 0))) 0
  rw [show (#[.slice (some ⟨g, 0, none⟩) n n, .func (.func 44) #[] #[.pointer (some ⟨B, 0, none⟩)]] : Array Value)[0]? = some (.slice (some ⟨g, 0, none⟩) n n) from rfl] at bx
  have HS := Aside0.mk hS1
  clear hS hS1
  go_enter Try.func90, Try.ntmps90
  go_wp2
  go_ret
  exact ⟨rfl, HS.out⟩
set_option maxHeartbeats 4000000 in
set_option maxRecDepth 100000 in
theorem less_calls {w0 : World} {g n B h : Nat} {R : Nat → Int} {A : Nat → Nat} {W : World} (hR : RestW w0 g n B h R) (hS : SortW w0 g n A W) (i j : Nat) (hi : i < n) (hj : j < n) (hAi : A i < n) (hAj : A j < n) :
    Calls Try.prog 91 #[rkV g n B, .int .i64 i, .int .i64 j] W fun e w' => e = .returned (.bool (decide (R (A j) < R (A i)))) ∧ SortW w0 g n A w' := by
  unfold rkV
  have hS1 := hS.below (below_alloc (Below.refl _ _) (.cells #[.slice (some ⟨g, 0, none⟩) n n, .func (.func 44) #[] #[.pointer (some ⟨B, 0, none⟩)]] 79 (0, 0)))
  have bx := blk_cell (blk_new W (.cells #[.slice (some ⟨g, 0, none⟩) n n, .func (.func 44) #[] #[.pointer (some ⟨B, 0, none⟩)]] 79 (0, 0))) 0
  rw [show (#[.slice (some ⟨g, 0, none⟩) n n, .func (.func 44) #[] #[.pointer (some ⟨B, 0, none⟩)]] : Array Value)[0]? = some (.slice (some ⟨g, 0, none⟩) n n) from rfl] at bx
  have bf := blk_cell (blk_new W (.cells #[.slice (some ⟨g, 0, none⟩) n n, .func (.func 44) #[] #[.pointer (some ⟨B, 0, none⟩)]] 79 (0, 0))) 1
  rw [show (#[.slice (some ⟨g, 0, none⟩) n n, .func (.func 44) #[] #[.pointer (some ⟨B, 0, none⟩)]] : Array Value)[1]? = some (.func (.func 44) #[] #[.pointer (some ⟨B, 0, none⟩)]) from rfl] at bf
  have ci := hS1.cell i hi
  have cj := hS1.cell j hj
  have hlt := hR.lt
  have HR := Aside0.mk hR
  have HS := Aside0.mk hS1
  clear hS hS1 hR
  obtain ⟨W1, hW1⟩ : ∃ W1, W.alloc (.cells #[.slice (some ⟨g, 0, none⟩) n n, .func (.func 44) #[] #[.pointer (some ⟨B, 0, none⟩)]] 79 (0, 0)) = W1 := ⟨_, rfl⟩
  go_enter Try.func91, Try.ntmps91
  go_wp2
  rw [hW1] at bx bf ci cj HS
  go_region_held3 (fun w' => w'.cell? ⟨W.heap.size, 0, none⟩ = some (.slice (some ⟨g, 0, none⟩) n n) ∧ w'.cell? ⟨W.heap.size, 1, none⟩ = some (.func (.func 44) #[] #[.pointer (some ⟨B, 0, none⟩)]) ∧ w'.cell? ⟨g, i, none⟩ = some (.int .i64 (A i)) ∧ w'.cell? ⟨g, j, none⟩ = some (.int .i64 (A j)))
    (first | exact ⟨bx, bf, ci, cj⟩ | go_keep)
    (first | (go_at_call 44; refine (share1_calls HR.out (HS.out.drewN 1) (A i) (A j) hAi hAj).mono ?_; rintro e w3 ⟨rfl, q3, rfl⟩))
  all_goals go_wp2
  all_goals go_ret
  all_goals exact ⟨rfl, HS.out.drewN _⟩
inductive Sw (a b : Nat) : (Nat → Nat) → (Nat → Nat) → Prop
  | refl (A : Nat → Nat) : Sw a b A A
  | step {A A' : Nat → Nat} (i j : Nat) (h : Sw a b A A') (hi : a ≤ i ∧ i < b) (hj : a ≤ j ∧ j < b) : Sw a b A (swp A' i j)
theorem Sw.trans {a b : Nat} {A A' A2 : Nat → Nat} (h : Sw a b A A') (k : Sw a b A' A2) : Sw a b A A2 := by
  induction k with
  | refl => exact h
  | step i j _ hi hj ih => exact .step i j ih hi hj
theorem Sw.mono {a b c d : Nat} {A A' : Nat → Nat} (h : Sw a b A A') (h1 : c ≤ a) (h2 : b ≤ d) : Sw c d A A' := by
  induction h with
  | refl => exact .refl _
  | step i j _ hi hj ih => exact .step i j ih ⟨by omega, by omega⟩ ⟨by omega, by omega⟩
theorem Sw.out {a b : Nat} {A A' : Nat → Nat} (h : Sw a b A A') (k : Nat) (hk : k < a ∨ b ≤ k) : A' k = A k := by
  induction h with
  | refl => rfl
  | step i j _ hi hj ih => unfold swp; rw [if_neg (by omega), if_neg (by omega)]; exact ih
theorem Sw.img {a b : Nat} {A A' : Nat → Nat} (h : Sw a b A A') {Q : Nat → Prop} (hq : ∀ k, a ≤ k → k < b → Q (A k)) : ∀ k, a ≤ k → k < b → Q (A' k) := by
  induction h with
  | refl => exact hq
  | step i j _ hi hj ih =>
    intro k h1 h2
    unfold swp
    split
    · exact ih j hj.1 hj.2
    · split
      · exact ih i hi.1 hi.2
      · exact ih k h1 h2
theorem Sw.all {a b n : Nat} {A A' : Nat → Nat} (h : Sw a b A A') (hb : b ≤ n) {Q : Nat → Prop} (hq : ∀ k, k < n → Q (A k)) : ∀ k, k < n → Q (A' k) := fun k hk => by
  by_cases c : a ≤ k ∧ k < b
  · exact h.img (fun k _ h2 => hq k (by omega)) k c.1 c.2
  · rw [h.out k (by omega)]; exact hq k hk
def swpR (A : Nat → Nat) (a b n : Nat) : Nat → Nat := fun k => if a ≤ k ∧ k < a + n then A (k - a + b) else if b ≤ k ∧ k < b + n then A (k - b + a) else A k
def rot (A : Nat → Nat) (a m b : Nat) : Nat → Nat := fun k => if a ≤ k ∧ k < a + (b - m) then A (k - a + m) else if a + (b - m) ≤ k ∧ k < b then A (k - (b - m)) else A k
theorem rot_lo {A : Nat → Nat} {a m b k : Nat} (h1 : a ≤ k) (h2 : k < a + (b - m)) : rot A a m b k = A (k - a + m) := if_pos ⟨h1, h2⟩
theorem rot_hi {A : Nat → Nat} {a m b k : Nat} (h1 : a + (b - m) ≤ k) (h2 : k < b) : rot A a m b k = A (k - (b - m)) := (if_neg (by omega)).trans (if_pos ⟨h1, h2⟩)
theorem rot_out {A : Nat → Nat} {a m b k : Nat} (h : a ≤ m) (hm : m ≤ b) (h1 : k < a ∨ b ≤ k) : rot A a m b k = A k := (if_neg (by omega)).trans (if_neg (by omega))
theorem swpR_lo {A : Nat → Nat} {a b n k : Nat} (h1 : a ≤ k) (h2 : k < a + n) : swpR A a b n k = A (k - a + b) := if_pos ⟨h1, h2⟩
theorem swpR_hi {A : Nat → Nat} {a b n k : Nat} (h : a + n ≤ b) (h1 : b ≤ k) (h2 : k < b + n) : swpR A a b n k = A (k - b + a) := (if_neg (by omega)).trans (if_pos ⟨h1, h2⟩)
theorem swpR_out {A : Nat → Nat} {a b n k : Nat} (h1 : ¬ (a ≤ k ∧ k < a + n)) (h2 : ¬ (b ≤ k ∧ k < b + n)) : swpR A a b n k = A k := (if_neg h1).trans (if_neg h2)
theorem swpR_zero (A : Nat → Nat) (a b : Nat) : swpR A a b 0 = A := by
  funext k; exact swpR_out (by omega) (by omega)
theorem swp_is1 (A : Nat → Nat) {i j k : Nat} (h : k = i) : swp A i j k = A j := if_pos h
theorem swp_is2 (A : Nat → Nat) {i j k : Nat} (h : k ≠ i) (h2 : k = j) : swp A i j k = A i := (if_neg h).trans (if_pos h2)
theorem swp_is3 (A : Nat → Nat) {i j k : Nat} (h : k ≠ i) (h2 : k ≠ j) : swp A i j k = A k := (if_neg h).trans (if_neg h2)
theorem swpR_succ (A : Nat → Nat) (a b n : Nat) (h : a + (n + 1) ≤ b) : swp (swpR A a b n) (a + n) (b + n) = swpR A a b (n + 1) := by
  funext k
  by_cases c1 : k = a + n
  · rw [swp_is1 _ c1, swpR_out (by omega) (by omega), swpR_lo (by omega) (by omega)]; congr 1; omega
  · by_cases c2 : k = b + n
    · rw [swp_is2 _ c1 c2, swpR_out (by omega) (by omega), swpR_hi (by omega) (by omega) (by omega)]; congr 1; omega
    · rw [swp_is3 _ c1 c2]
      by_cases c3 : a ≤ k ∧ k < a + n
      · rw [swpR_lo c3.1 c3.2, swpR_lo (by omega) (by omega)]
      · by_cases c4 : b ≤ k ∧ k < b + n
        · rw [swpR_hi (by omega) c4.1 c4.2, swpR_hi (by omega) (by omega) (by omega)]
        · rw [swpR_out c3 c4, swpR_out (by omega) (by omega)]
theorem rot_gt (A : Nat → Nat) (m i j : Nat) (h : j < i) (hi : i ≤ m) : rot (swpR A (m - i) m j) (m - (i - j)) m (m + j) = rot A (m - i) m (m + j) := by
  funext k
  by_cases c0 : k < m - i ∨ m + j ≤ k
  · rw [rot_out (by omega) (by omega) (by omega), swpR_out (by omega) (by omega), rot_out (by omega) (by omega) (by omega)]
  · by_cases c1 : k < m - i + j
    · rw [rot_out (by omega) (by omega) (by omega), swpR_lo (by omega) (by omega), rot_lo (by omega) (by omega)]
    · rw [rot_hi (A := A) (by omega) (by omega)]
      by_cases c2 : k < m - (i - j) + j
      · rw [rot_lo (by omega) (by omega), swpR_hi (by omega) (by omega) (by omega)]; congr 1; omega
      · rw [rot_hi (by omega) (by omega), swpR_out (by omega) (by omega)]
theorem rot_lt (A : Nat → Nat) (m i j : Nat) (h : i < j) (hi : i ≤ m) : rot (swpR A (m - i) (m + j - i) i) (m - i) m (m + (j - i)) = rot A (m - i) m (m + j) := by
  funext k
  by_cases c0 : k < m - i ∨ m + j ≤ k
  · rw [rot_out (by omega) (by omega) (by omega), swpR_out (by omega) (by omega), rot_out (by omega) (by omega) (by omega)]
  · by_cases c1 : m + (j - i) ≤ k
    · rw [rot_out (by omega) (by omega) (by omega), swpR_hi (by omega) (by omega) (by omega), rot_hi (by omega) (by omega)]; congr 1; omega
    · by_cases c2 : k < m - i + (j - i)
      · rw [rot_lo (by omega) (by omega), rot_lo (by omega) (by omega), swpR_out (by omega) (by omega)]
      · rw [rot_hi (by omega) (by omega), swpR_lo (by omega) (by omega)]
        by_cases c3 : k < m - i + j
        · rw [rot_lo (by omega) (by omega)]; congr 1; omega
        · omega
theorem rot_eq (A : Nat → Nat) (m i : Nat) (hi : i ≤ m) : swpR A (m - i) m i = rot A (m - i) m (m + i) := by
  funext k
  by_cases c0 : k < m - i ∨ m + i ≤ k
  · rw [swpR_out (by omega) (by omega), rot_out (by omega) (by omega) (by omega)]
  · by_cases c1 : k < m
    · rw [swpR_lo (by omega) (by omega), rot_lo (by omega) (by omega)]
    · rw [swpR_hi (by omega) (by omega) (by omega), rot_hi (by omega) (by omega)]; congr 1; omega
theorem finds_less (g n B : Nat) (w : World) : Sem.run Try.prog (method (Try.prog.types.size + 100) 79 (rkV g n B) "Less") w = .ok (91, rkV g n B) w := by kernel_rfl
theorem finds_swap (g n B : Nat) (w : World) : Sem.run Try.prog (method (Try.prog.types.size + 100) 79 (rkV g n B) "Swap") w = .ok (92, rkV g n B) w := by kernel_rfl
theorem finds_len (g n B : Nat) (w : World) : Sem.run Try.prog (method (Try.prog.types.size + 100) 79 (rkV g n B) "Len") w = .ok (90, rkV g n B) w := by kernel_rfl
section
variable {P : Program} {ops : Array Oper} {Q : Exit → Act → World → Prop}
theorem goesI_ {rest : List Oper} {oi : Oper} {a : Act} {w : World} (N : Option Tmp) (hd : oi.dst = N) (hw : Region.wanted oi (yielded ops a.tmps) = true) {f : FuncId} {fn : Func} {T : TypeId} {rv : Value} {x : Operand} {name : String} {xs : Array Operand} {ts : Array TypeId} (hf : P.funcs[f]? = some fn) (hname : (fn.name == "runtime.NumGoroutine") = false) (hb : fn.body.isSome = true) (args : Array Value)
    (hop : oi.op = .call { callee := .invoke x name, args := xs, argTypes := ts }) (hx : a.eval x = .iface T rv) (hargs : xs.map a.eval = args) (hfind : ∀ w, Sem.run P (method (P.types.size + 100) T rv name) w = .ok (f, rv) w)
    (h : Calls P f (#[rv] ++ args) w fun e w' => ∃ v, e = .returned v ∧ wpList P ops Q rest (a.put N v) w') : wpList P ops Q (oi :: rest) a w := by
  refine wpList_step fun K hK => ?_
  rw [if_pos hw]
  have he := enters_ hf hname hb (#[rv] ++ args) w
  have hrun : (execOp a.eval oi).run P w = .ok (.enter f (#[rv] ++ args)) w := by
    have hfi := hfind w
    have e0 : (#[Value.iface T rv] ++ args)[0]? = some (.iface T rv) := by rw [Array.getElem?_append_left (by simp)]; rfl
    unfold execOp
    rw [hop]
    simp [resolve, invoke, callMethod, hargs, hx, Made.depth, e0, hfi, he]
  unfold Oper.wp
  rw [hrun, Oper.upon_enter]
  refine h.mono fun e w'' hh => ?_
  obtain ⟨v, rfl, hk⟩ := hh
  subst hd
  exact hK _ _ hk
end
set_option maxHeartbeats 4000000 in
set_option maxRecDepth 100000 in
theorem swapRange_calls {w0 : World} {g n B : Nat} {A : Nat → Nat} {W : World} (hlt : n < 4611686018427387904) (hS : SortW w0 g n A W) (a b c : Nat) (h1 : a + c ≤ b) (h2 : b + c ≤ n) :
    Calls Try.prog 72 #[.iface 79 (rkV g n B), .int .i64 a, .int .i64 b, .int .i64 c] W fun e w' => e = .returned (.tuple #[]) ∧ SortW w0 g n (swpR A a b c) w' ∧ Sw a (b + c) A (swpR A a b c) := by
  have HS := Aside0.mk hS
  clear hS
  have HC : ∀ {A : Nat → Nat} {W : World} (hS : SortW w0 g n A W) (i j : Nat) (x y : Int) (hx : x = i) (hy : y = j) (hi : i < n) (hj : j < n), Calls Try.prog 92 #[rkV g n B, .int .i64 x, .int .i64 y] W fun e w' => e = .returned (.tuple #[]) ∧ SortW w0 g n (swp A i j) w' := fun hS i j x y hx hy hi hj => by subst hx hy; exact swap_calls hlt hS i j hi hj
  have hF := finds_swap g n B
  generalize rkV g n B = rv at HC hF
  have HC := Aside0.mk @HC
  have HF := Aside0.mk hF
  clear hF
  go_enter Try.func72, Try.ntmps72
  go_wp2
  go_loopw [8] (fun v wr => ∃ i : Nat, i ≤ c ∧ v = .int .i64 i ∧ Aside0 (SortW w0 g n (swpR A a b i) wr) ∧ Aside0 (Sw a (b + c) A (swpR A a b i))) (fun v _ => c - (intOf v).toNat)
  case atStart => exact ⟨0, Nat.zero_le _, rfl, ⟨by rw [swpR_zero]; exact HS.out⟩, ⟨by rw [swpR_zero]; exact .refl _⟩⟩
  case round =>
    obtain ⟨i, hi, rfl, HS1, HW⟩ := hrel
    by_cases hl : i < c
    · have hd : decide ((i : Int) < (c : Int)) = true := decide_eq_true (by omega)
      go_wp2_with (first | ((with_reducible refine gate_dst (N := 21) rfl ?_); refine goesI_ (some 21) rfl rfl Try.func92 (by kernel_rfl) rfl #[.int .i64 ((a : Int) + i), .int .i64 ((b : Int) + i)] rfl rfl (by (try simp only [List.map_toArray, List.map_cons, List.map_nil]); first | done | rfl) HF.out ?_; refine (HC.out HS1.out (a + i) (b + i) _ _ (by omega) (by omega) (by omega) (by omega)).mono ?_; rintro e w' ⟨rfl, hS2⟩; refine ⟨_, rfl, ?_⟩))
      go_roundw
      case rel => exact ⟨i + 1, hl, by go_num, ⟨by rw [← swpR_succ A a b i (by omega)]; exact hS2⟩, ⟨by rw [← swpR_succ A a b i (by omega)]; exact .step _ _ HW.out (by omega) (by omega)⟩⟩
      case measure => simp [intOf]; omega
    · have hd : decide ((i : Int) < (c : Int)) = false := decide_eq_false (by omega)
      obtain rfl : i = c := by omega
      go_wp2
      go_end0
      exact ⟨rfl, HS1.out, HW.out⟩
theorem swapRange_at {w0 : World} {g n B : Nat} {A : Nat → Nat} {W : World} (hlt : n < 4611686018427387904) (hS : SortW w0 g n A W) (a b c : Nat) (x y z : Int) (hx : x = a) (hy : y = b) (hz : z = c) (h1 : a + c ≤ b) (h2 : b + c ≤ n) :
    Calls Try.prog 72 #[.iface 79 (rkV g n B), .int .i64 x, .int .i64 y, .int .i64 z] W fun e w' => e = .returned (.tuple #[]) ∧ SortW w0 g n (swpR A a b c) w' ∧ Sw a (b + c) A (swpR A a b c) := by
  subst hx hy hz
  exact swapRange_calls hlt hS a b c h1 h2
set_option maxHeartbeats 4000000 in
set_option maxRecDepth 100000 in
theorem rotate_calls {w0 : World} {g n B : Nat} {A : Nat → Nat} {W : World} (hlt : n < 4611686018427387904) (hS : SortW w0 g n A W) (a m b : Nat) (h1 : a < m) (h2 : m < b) (h3 : b ≤ n) :
    Calls Try.prog 69 #[.iface 79 (rkV g n B), .int .i64 a, .int .i64 m, .int .i64 b] W fun e w' => e = .returned (.tuple #[]) ∧ SortW w0 g n (rot A a m b) w' ∧ Sw a b A (rot A a m b) := by
  have HC : ∀ {A : Nat → Nat} {W : World} (hS : SortW w0 g n A W) (a b c : Nat) (x y z : Int) (hx : x = a) (hy : y = b) (hz : z = c) (h1 : a + c ≤ b) (h2 : b + c ≤ n), Calls Try.prog 72 #[.iface 79 (rkV g n B), .int .i64 x, .int .i64 y, .int .i64 z] W fun e w' => e = .returned (.tuple #[]) ∧ SortW w0 g n (swpR A a b c) w' ∧ Sw a (b + c) A (swpR A a b c) := fun hS a b c x y z hx hy hz h1 h2 => swapRange_at hlt hS a b c x y z hx hy hz h1 h2
  generalize rkV g n B = rv at HC
  have HC := Aside0.mk @HC
  have HS := Aside0.mk hS
  clear hS
  go_enter Try.func69, Try.ntmps69
  go_wp2
  go_loopw [8, 9] (fun u v wr => ∃ (i j : Nat) (A' : Nat → Nat), u = .int .i64 i ∧ v = .int .i64 j ∧ 1 ≤ i ∧ 1 ≤ j ∧ a + i ≤ m ∧ m + j ≤ b ∧ Aside0 (SortW w0 g n A' wr) ∧ Aside0 (rot A' (m - i) m (m + j) = rot A a m b) ∧ Aside0 (Sw a b A A')) (fun u v _ => (intOf u).toNat + (intOf v).toNat)
  case atStart => exact ⟨m - a, b - m, A, by go_num, by go_num, by omega, by omega, by omega, by omega, HS, ⟨by rw [show m - (m - a) = a by omega, show m + (b - m) = b by omega]⟩, ⟨.refl _⟩⟩
  case round =>
    obtain ⟨i, j, A', rfl, rfl, hi, hj, hi2, hj2, HS1, HR, HW⟩ := hrel
    by_cases c1 : i = j
    · subst c1
      have d1 : (((i : Int)) != ((i : Int))) = false := by simp
      go_wp2_with (first | (go_at_call 72; refine (HC.out HS1.out (m - i) m i _ _ _ (by omega) rfl rfl (by omega) (by omega)).mono ?_; rintro e w' ⟨rfl, hS2, hW2⟩))
      go_end0
      have e := rot_eq A' m i (by omega)
      rw [HR.out] at e
      rw [e] at hS2 hW2
      exact ⟨rfl, hS2, HW.out.trans (hW2.mono (by omega) (by omega))⟩
    · have d1 : (((i : Int)) != ((j : Int))) = true := by simp; omega
      by_cases c2 : j < i
      · have d2 : decide ((j : Int) < (i : Int)) = true := decide_eq_true (by omega)
        go_wp2_with (first | (go_at_call 72; refine (HC.out HS1.out (m - i) m j _ _ _ (by omega) rfl rfl (by omega) (by omega)).mono ?_; rintro e w' ⟨rfl, hS2, hW2⟩))
        go_roundw
        case rel => exact ⟨i - j, j, _, by go_num, rfl, by omega, by omega, by omega, by omega, ⟨hS2⟩, ⟨by rw [rot_gt A' m i j c2 (by omega)]; exact HR.out⟩, ⟨HW.out.trans (hW2.mono (by omega) (by omega))⟩⟩
        case measure => simp [intOf]; omega
      · have d2 : decide ((j : Int) < (i : Int)) = false := decide_eq_false (by omega)
        go_wp2_with (first | (go_at_call 72; refine (HC.out HS1.out (m - i) (m + j - i) i _ _ _ (by omega) (by omega) rfl (by omega) (by omega)).mono ?_; rintro e w' ⟨rfl, hS2, hW2⟩))
        go_roundw
        case rel => exact ⟨i, j - i, _, rfl, by go_num, by omega, by omega, by omega, by omega, ⟨hS2⟩, ⟨by rw [rot_lt A' m i j (by omega) (by omega)]; exact HR.out⟩, ⟨HW.out.trans (hW2.mono (by omega) (by omega))⟩⟩
        case measure => simp [intOf]; omega
theorem rotate_at {w0 : World} {g n B : Nat} {A : Nat → Nat} {W : World} (hlt : n < 4611686018427387904) (hS : SortW w0 g n A W) (a m b : Nat) (x y z : Int) (hx : x = a) (hy : y = m) (hz : z = b) (h1 : a < m) (h2 : m < b) (h3 : b ≤ n) :
    Calls Try.prog 69 #[.iface 79 (rkV g n B), .int .i64 x, .int .i64 y, .int .i64 z] W fun e w' => e = .returned (.tuple #[]) ∧ SortW w0 g n (rot A a m b) w' ∧ Sw a b A (rot A a m b) := by
  subst hx hy hz
  exact rotate_calls hlt hS a m b h1 h2 h3
def ltR (R : Nat → Int) (x y : Nat) : Prop := R y < R x ∨ R x = R y ∧ x < y
theorem ltR.trans {R : Nat → Int} {x y z : Nat} (h : ltR R x y) (k : ltR R y z) : ltR R x z := by
  unfold ltR at *; omega
def Sorted (R : Nat → Int) (A : Nat → Nat) (a b : Nat) : Prop := ∀ p q, a ≤ p → p < q → q < b → ltR R (A p) (A q)
structure Hole (R : Nat → Int) (A : Nat → Nat) (a i j x : Nat) : Prop where
  at_j : A j = x
  rest : ∀ p q, a ≤ p → p < q → q ≤ i → p ≠ j → q ≠ j → ltR R (A p) (A q)
  up : ∀ q, j < q → q ≤ i → ltR R x (A q)
  low : ∀ p, a ≤ p → p ≤ i → p ≠ j → A p < x
theorem Hole.start {R : Nat → Int} {A : Nat → Nat} {a i : Nat} (hs : Sorted R A a i) (hl : ∀ p, a ≤ p → p < i → A p < A i) : Hole R A a i i (A i) :=
  ⟨rfl, fun p q h1 h2 h3 h4 h5 => hs p q h1 h2 (by omega), fun q h1 h2 => by omega, fun p h1 h2 h3 => hl p h1 (by omega)⟩
theorem Hole.step {R : Nat → Int} {A : Nat → Nat} {a i j x : Nat} (h : Hole R A a i j x) (ha : a < j) (hj : j ≤ i) (hl : R (A (j - 1)) < R x) : Hole R (swp A j (j - 1)) a i (j - 1) x := by
  have e1 : swp A j (j - 1) (j - 1) = x := by rw [swp_is2 _ (by omega) rfl]; exact h.at_j
  have e2 : swp A j (j - 1) j = A (j - 1) := swp_is1 _ rfl
  have e3 : ∀ k, k ≠ j → k ≠ j - 1 → swp A j (j - 1) k = A k := fun k h1 h2 => swp_is3 _ h1 h2
  refine ⟨e1, ?_, ?_, ?_⟩
  · intro p q h1 h2 h3 h4 h5
    by_cases c : p = j
    · subst c
      rw [e2, e3 q (by omega) h5]
      exact h.rest (p - 1) q (by omega) (by omega) h3 (by omega) (by omega)
    · by_cases d : q = j
      · subst d
        rw [e2, e3 p c h4]
        exact h.rest p (q - 1) h1 (by omega) (by omega) c (by omega)
      · rw [e3 p c h4, e3 q d h5]
        exact h.rest p q h1 h2 h3 c d
  · intro q h1 h2
    by_cases d : q = j
    · rw [d, e2]; exact .inl hl
    · rw [e3 q d (by omega)]; exact h.up q (by omega) h2
  · intro p h1 h2 h3
    by_cases c : p = j
    · rw [c, e2]; exact h.low (j - 1) (by omega) (by omega) (by omega)
    · rw [e3 p c h3]; exact h.low p h1 h2 c
theorem Hole.done {R : Nat → Int} {A : Nat → Nat} {a i j x : Nat} (h : Hole R A a i j x) (ha : a ≤ j) (hj : j ≤ i) (hl : a < j → ¬ R (A (j - 1)) < R x) : Sorted R A a (i + 1) := by
  have below : ∀ p, a ≤ p → p < j → ltR R (A p) x := by
    intro p h1 h2
    have h0 : ltR R (A (j - 1)) x := by
      have := hl (by omega)
      have := h.low (j - 1) (by omega) (by omega) (by omega)
      unfold ltR; omega
    by_cases c : p = j - 1
    · rw [c]; exact h0
    · exact (h.rest p (j - 1) h1 (by omega) (by omega) (by omega) (by omega)).trans h0
  intro p q h1 h2 h3
  by_cases c : p = j
  · rw [c, h.at_j]; exact h.up q (by omega) (by omega)
  · by_cases d : q = j
    · rw [d, h.at_j]; exact below p h1 (by omega)
    · exact h.rest p q h1 h2 (by omega) c d
set_option maxHeartbeats 4000000 in
set_option maxRecDepth 100000 in
theorem insertion_calls {w0 : World} {g n B h : Nat} {R : Nat → Int} {A : Nat → Nat} {W : World} (hR : RestW w0 g n B h R) (hS : SortW w0 g n A W) (hA : ∀ k, k < n → A k < n) (a b : Nat) (h1 : a ≤ b) (h2 : b ≤ n) (hinc : ∀ p q, a ≤ p → p < q → q < b → A p < A q) :
    Calls Try.prog 62 #[.iface 79 (rkV g n B), .int .i64 a, .int .i64 b] W fun e w' => e = .returned (.tuple #[]) ∧ ∃ A', SortW w0 g n A' w' ∧ Sw a b A A' ∧ Sorted R A' a b := by
  have hlt := hR.lt
  have HC : ∀ {A : Nat → Nat} {W : World} (hS : SortW w0 g n A W) (i j : Nat) (x y : Int) (hx : x = i) (hy : y = j) (hi : i < n) (hj : j < n), Calls Try.prog 92 #[rkV g n B, .int .i64 x, .int .i64 y] W fun e w' => e = .returned (.tuple #[]) ∧ SortW w0 g n (swp A i j) w' := fun hS i j x y hx hy hi hj => by subst hx hy; exact swap_calls hlt hS i j hi hj
  have HL : ∀ {A : Nat → Nat} {W : World} (hS : SortW w0 g n A W) (i j : Nat) (x y : Int) (bo : Bool) (hx : x = i) (hy : y = j) (hi : i < n) (hj : j < n) (hAi : A i < n) (hAj : A j < n) (hb : decide (R (A j) < R (A i)) = bo), Calls Try.prog 91 #[rkV g n B, .int .i64 x, .int .i64 y] W fun e w' => e = .returned (.bool bo) ∧ SortW w0 g n A w' := fun hS i j x y bo hx hy hi hj hAi hAj hb => by subst hx hy hb; exact less_calls hR hS i j hi hj hAi hAj
  have hF := finds_swap g n B
  have hG := finds_less g n B
  generalize rkV g n B = rv at HC HL hF hG
  have HC := Aside0.mk @HC
  have HL := Aside0.mk @HL
  have HF := Aside0.mk hF
  have HG := Aside0.mk hG
  have HS := Aside0.mk hS
  have HA := Aside0.mk hA
  have HI := Aside0.mk hinc
  clear hF hG hS hR hA hinc
  go_enter Try.func62, Try.ntmps62
  go_wp2
  go_loopw [6] (fun v wr => ∃ (i : Nat) (A1 : Nat → Nat), v = .int .i64 i ∧ a + 1 ≤ i ∧ (i ≤ b ∨ i = a + 1) ∧ Aside0 (SortW w0 g n A1 wr) ∧ Aside0 (Sw a (min i b) A A1) ∧ Aside0 (Sorted R A1 a (min i b))) (fun v _ => b + 1 - (intOf v).toNat)
  case atStart => exact ⟨a + 1, A, by go_num, Nat.le_refl _, .inr rfl, HS, ⟨.refl _⟩, ⟨fun p q h1 h2 h3 => by omega⟩⟩
  case round =>
    obtain ⟨i, A1, rfl, hi, hib, HS1, HW, HO⟩ := hrel
    by_cases c1 : i < b
    · have d1 : decide ((i : Int) < (b : Int)) = true := decide_eq_true (by omega)
      have emin : min i b = i := by omega
      have emin1 : min (i + 1) b = i + 1 := by omega
      have hW1 := HW.out
      have hO1 := HO.out
      rw [emin] at hW1 hO1
      have hH := Hole.start hO1 (fun p h1 h2 => by
        rw [hW1.out i (by omega)]
        exact hW1.img (Q := fun v => v < A i) (fun k h1 h2 => HI.out k i h1 h2 c1) p h1 h2)
      have hW2 := hW1.mono (Nat.le_refl a) (Nat.le_succ i)
      have H1 := Aside0.mk hH
      have W2 := Aside0.mk hW2
      obtain ⟨x, hx⟩ : ∃ x, A1 i = x := ⟨_, rfl⟩
      have Hx := Aside0.mk hx
      rw [hx] at H1
      clear hH hW1 hO1 hW2 hx emin
      go_wp2
      go_loopw [7] (fun v wr => ∃ (j : Nat) (A2 : Nat → Nat), v = .int .i64 j ∧ a ≤ j ∧ j ≤ i ∧ Aside0 (SortW w0 g n A2 wr) ∧ Aside0 (Sw a (i + 1) A A2) ∧ Aside0 (Hole R A2 a i j x)) (fun v _ => (intOf v).toNat)
      case atStart => exact ⟨i, A1, rfl, by omega, Nat.le_refl _, HS1, W2, H1⟩
      case round =>
        obtain ⟨j, A2, rfl, hj, hji, HS2, HW2, HH⟩ := hrel
        have done : (a < j → ¬ R (A2 (j - 1)) < R x) → ∃ (i' : Nat) (A1 : Nat → Nat), Value.int .i64 ((i : Int) + 1) = .int .i64 (i' : Nat) ∧ a + 1 ≤ i' ∧ (i' ≤ b ∨ i' = a + 1) ∧ Aside0 (Sw a (min i' b) A A1) ∧ Aside0 (Sorted R A1 a (min i' b)) ∧ A1 = A2 := fun hl =>
          ⟨i + 1, A2, by go_num, by omega, by omega, ⟨by rw [emin1]; exact HW2.out⟩, ⟨by rw [emin1]; exact HH.out.done hj hji hl⟩, rfl⟩
        have DONE := Aside0.mk done
        clear done
        by_cases c2 : a < j
        · have d2 : decide ((a : Int) < (j : Int)) = true := decide_eq_true (by omega)
          have b1 : A2 j < n := HW2.out.all (n := n) (Q := fun v => v < n) (by omega) HA.out j (by omega)
          have b2 : A2 (j - 1) < n := HW2.out.all (n := n) (Q := fun v => v < n) (by omega) HA.out (j - 1) (by omega)
          by_cases c3 : R (A2 (j - 1)) < R x
          · have hb : decide (R (A2 (j - 1)) < R (A2 j)) = true := by rw [HH.out.at_j]; exact decide_eq_true c3
            have HB := Aside0.mk hb
            have C3 := Aside0.mk c3
            clear hb c3
            go_wp2_with (first
              | ((with_reducible refine gate_dst (N := 24) rfl ?_); refine goesI_ (some 24) rfl rfl Try.func91 (by kernel_rfl) rfl #[.int .i64 (j : Int), .int .i64 ((j : Int) - 1)] rfl rfl (by (try simp only [List.map_toArray, List.map_cons, List.map_nil]); first | done | rfl) HG.out ?_; refine (HL.out HS2.out j (j - 1) _ _ true rfl (by omega) (by omega) (by omega) b1 b2 HB.out).mono ?_; rintro e w' ⟨rfl, hS3⟩; refine ⟨_, rfl, ?_⟩)
              | ((with_reducible refine gate_dst (N := 32) rfl ?_); refine goesI_ (some 32) rfl rfl Try.func92 (by kernel_rfl) rfl #[.int .i64 (j : Int), .int .i64 ((j : Int) - 1)] rfl rfl (by (try simp only [List.map_toArray, List.map_cons, List.map_nil]); first | done | rfl) HF.out ?_; refine (HC.out hS3 j (j - 1) _ _ rfl (by omega) (by omega) (by omega)).mono ?_; rintro e w4 ⟨rfl, hS4⟩; refine ⟨_, rfl, ?_⟩))
            go_roundw
            case rel => exact ⟨j - 1, swp A2 j (j - 1), by go_num, by omega, by omega, ⟨hS4⟩, ⟨.step j (j - 1) HW2.out (by omega) (by omega)⟩, ⟨HH.out.step c2 hji C3.out⟩⟩
            case measure => simp [intOf]; omega
          · have hb : decide (R (A2 (j - 1)) < R (A2 j)) = false := by rw [HH.out.at_j]; exact decide_eq_false c3
            have HB := Aside0.mk hb
            have C3 := Aside0.mk c3
            clear hb c3
            go_wp2_with (first | ((with_reducible refine gate_dst (N := 24) rfl ?_); refine goesI_ (some 24) rfl rfl Try.func91 (by kernel_rfl) rfl #[.int .i64 (j : Int), .int .i64 ((j : Int) - 1)] rfl rfl (by (try simp only [List.map_toArray, List.map_cons, List.map_nil]); first | done | rfl) HG.out ?_; refine (HL.out HS2.out j (j - 1) _ _ false rfl (by omega) (by omega) (by omega) b1 b2 HB.out).mono ?_; rintro e w' ⟨rfl, hS3⟩; refine ⟨_, rfl, ?_⟩))
            go_roundw
            case rel =>
              obtain ⟨i', A3, e1, e2, e3, e4, e5, rfl⟩ := DONE.out (fun _ => C3.out)
              exact ⟨i', A3, e1, e2, e3, ⟨hS3⟩, e4, e5⟩
            case measure => simp [intOf]; omega
        · have d2 : decide ((a : Int) < (j : Int)) = false := decide_eq_false (by omega)
          go_wp2
          go_roundw
          case rel =>
            obtain ⟨i', A3, e1, e2, e3, e4, e5, rfl⟩ := DONE.out (fun hh => absurd hh c2)
            exact ⟨i', A3, e1, e2, e3, HS2, e4, e5⟩
          case measure => simp [intOf]; omega
    · have d1 : decide ((i : Int) < (b : Int)) = false := decide_eq_false (by omega)
      go_wp2
      go_end0
      have emin : min i b = b := by omega
      have hW1 := HW.out
      have hO1 := HO.out
      rw [emin] at hW1 hO1
      exact ⟨rfl, A1, HS1.out, hW1, hO1⟩
theorem insertion_at {w0 : World} {g n B h : Nat} {R : Nat → Int} {A : Nat → Nat} {W : World} (hR : RestW w0 g n B h R) (hS : SortW w0 g n A W) (hA : ∀ k, k < n → A k < n) (a b : Nat) (x y : Int) (hx : x = a) (hy : y = b) (h1 : a ≤ b) (h2 : b ≤ n) (hinc : ∀ p q, a ≤ p → p < q → q < b → A p < A q) :
    Calls Try.prog 62 #[.iface 79 (rkV g n B), .int .i64 x, .int .i64 y] W fun e w' => e = .returned (.tuple #[]) ∧ ∃ A', SortW w0 g n A' w' ∧ Sw a b A A' ∧ Sorted R A' a b := by
  subst hx hy
  exact insertion_calls hR hS hA a b h1 h2 hinc
structure Pre (R : Nat → Int) (A : Nat → Nat) (a m b : Nat) : Prop where
  s1 : Sorted R A a m
  s2 : Sorted R A m b
  x : ∀ p q, a ≤ p → p < m → m ≤ q → q < b → A p < A q
theorem sorted_join {R : Nat → Int} {A : Nat → Nat} {a c b : Nat} (h1 : Sorted R A a c) (h2 : Sorted R A c b) (hx : ∀ p q, a ≤ p → p < c → c ≤ q → q < b → ltR R (A p) (A q)) : Sorted R A a b := by
  intro p q hp hpq hq
  by_cases c1 : q < c
  · exact h1 p q hp hpq c1
  · by_cases c2 : p < c
    · exact hx p q hp c2 (by omega) hq
    · exact h2 p q (by omega) hpq hq
theorem sorted_le {R : Nat → Int} {A : Nat → Nat} {a b : Nat} (h : Sorted R A a b) (p q : Nat) (h1 : a ≤ p) (h2 : p ≤ q) (h3 : q < b) : A p = A q ∨ ltR R (A p) (A q) := by
  by_cases c : p = q
  · exact .inl (by rw [c])
  · exact .inr (h p q h1 (by omega) h3)
theorem sorted_R {R : Nat → Int} {A : Nat → Nat} {a b : Nat} (h : Sorted R A a b) (p q : Nat) (h1 : a ≤ p) (h2 : p ≤ q) (h3 : q < b) : R (A q) ≤ R (A p) := by
  rcases sorted_le h p q h1 h2 h3 with e | e
  · rw [e]; exact Int.le_refl _
  · unfold ltR at e; omega
structure HoleG (R : Nat → Int) (A : Nat → Nat) (a b j x : Nat) : Prop where
  at_j : A j = x
  rest : ∀ p q, a ≤ p → p < q → q < b → p ≠ j → q ≠ j → ltR R (A p) (A q)
theorem HoleG.dn {R : Nat → Int} {A : Nat → Nat} {a b j x : Nat} (h : HoleG R A a b j x) (ha : a < j) (hj : j < b) : HoleG R (swp A j (j - 1)) a b (j - 1) x := by
  have e1 : swp A j (j - 1) (j - 1) = x := by rw [swp_is2 _ (by omega) rfl]; exact h.at_j
  have e2 : swp A j (j - 1) j = A (j - 1) := swp_is1 _ rfl
  have e3 : ∀ k, k ≠ j → k ≠ j - 1 → swp A j (j - 1) k = A k := fun k h1 h2 => swp_is3 _ h1 h2
  refine ⟨e1, fun p q h1 h2 h3 h4 h5 => ?_⟩
  by_cases c : p = j
  · subst c
    rw [e2, e3 q (by omega) h5]
    exact h.rest (p - 1) q (by omega) (by omega) h3 (by omega) (by omega)
  · by_cases d : q = j
    · subst d
      rw [e2, e3 p c h4]
      exact h.rest p (q - 1) h1 (by omega) (by omega) c (by omega)
    · rw [e3 p c h4, e3 q d h5]
      exact h.rest p q h1 h2 h3 c d
theorem HoleG.up {R : Nat → Int} {A : Nat → Nat} {a b j x : Nat} (h : HoleG R A a b j x) (ha : a ≤ j) (hj : j + 1 < b) : HoleG R (swp A j (j + 1)) a b (j + 1) x := by
  have e1 : swp A j (j + 1) (j + 1) = x := by rw [swp_is2 _ (by omega) rfl]; exact h.at_j
  have e2 : swp A j (j + 1) j = A (j + 1) := swp_is1 _ rfl
  have e3 : ∀ k, k ≠ j → k ≠ j + 1 → swp A j (j + 1) k = A k := fun k h1 h2 => swp_is3 _ h1 h2
  refine ⟨e1, fun p q h1 h2 h3 h4 h5 => ?_⟩
  by_cases c : p = j
  · subst c
    rw [e2, e3 q (by omega) h5]
    exact h.rest (p + 1) q (by omega) (by omega) h3 (by omega) (by omega)
  · by_cases d : q = j
    · subst d
      rw [e2, e3 p c h4]
      exact h.rest p (q + 1) h1 (by omega) (by omega) c (by omega)
    · rw [e3 p c h4, e3 q d h5]
      exact h.rest p q h1 h2 h3 c d
theorem HoleG.close {R : Nat → Int} {A : Nat → Nat} {a b j x : Nat} (h : HoleG R A a b j x) (h1 : ∀ p, a ≤ p → p < j → ltR R (A p) x) (h2 : ∀ q, j < q → q < b → ltR R x (A q)) : Sorted R A a b := by
  intro p q hp hpq hq
  by_cases c : p = j
  · rw [c, h.at_j]; exact h2 q (by omega) hq
  · by_cases d : q = j
    · rw [d, h.at_j]; exact h1 p hp (by omega)
    · exact h.rest p q hp hpq hq c d
structure Up (R : Nat → Int) (A A2 : Nat → Nat) (a b k : Nat) : Prop where
  hole : HoleG R A2 a b k (A a)
  dn : ∀ p, a ≤ p → p < k → ltR R (A2 p) (A a)
  tail : ∀ q, k < q → A2 q = A q
theorem Up.start {R : Nat → Int} {A : Nat → Nat} {a m b : Nat} (h : Pre R A a m b) (hm : m = a + 1) : Up R A A a b a :=
  ⟨⟨rfl, fun p q h1 h2 h3 h4 h5 => h.s2 p q (by omega) h2 h3⟩, fun p h1 h2 => absurd h1 (by omega), fun q _ => rfl⟩
theorem Up.next {R : Nat → Int} {A A2 : Nat → Nat} {a b k : Nat} (h : Up R A A2 a b k) (ha : a ≤ k) (hb : k + 1 < b) (hl : R (A a) < R (A (k + 1))) : Up R A (swp A2 k (k + 1)) a b (k + 1) := by
  refine ⟨h.hole.up ha hb, fun p h1 h2 => ?_, fun q hq => ?_⟩
  · by_cases c : p = k
    · rw [c, swp_is1 _ rfl, h.tail (k + 1) (by omega)]; exact .inl hl
    · rw [swp_is3 _ c (by omega)]; exact h.dn p h1 (by omega)
  · rw [swp_is3 _ (by omega) (by omega)]; exact h.tail q (by omega)
theorem Up.done {R : Nat → Int} {A A2 : Nat → Nat} {a m b k : Nat} (h : Up R A A2 a b k) (hp : Pre R A a m b) (hm : m = a + 1) (hk : a ≤ k) (hr : ∀ q, k < q → q < b → ¬ R (A a) < R (A q)) : Sorted R A2 a b :=
  h.hole.close h.dn fun q h1 h2 => by
    rw [h.tail q h1]
    have := hp.x a q (Nat.le_refl _) (by omega) (by omega) h2
    have := hr q h1 h2
    unfold ltR; omega
structure Dn (R : Nat → Int) (A A2 : Nat → Nat) (a m b k : Nat) : Prop where
  hole : HoleG R A2 a b k (A m)
  up : ∀ q, k < q → q < b → ltR R (A m) (A2 q)
  head : ∀ p, p < k → A2 p = A p
theorem Dn.start {R : Nat → Int} {A : Nat → Nat} {a m b : Nat} (h : Pre R A a m b) (hm : b = m + 1) : Dn R A A a m b m :=
  ⟨⟨rfl, fun p q h1 h2 h3 h4 h5 => h.s1 p q h1 h2 (by omega)⟩, fun q h1 h2 => absurd h1 (by omega), fun q _ => rfl⟩
theorem Dn.next {R : Nat → Int} {A A2 : Nat → Nat} {a m b k : Nat} (h : Dn R A A2 a m b k) (ha : a < k) (hb : k < b) (hl : R (A (k - 1)) < R (A m)) : Dn R A (swp A2 k (k - 1)) a m b (k - 1) := by
  refine ⟨h.hole.dn ha hb, fun q h1 h2 => ?_, fun p hp => ?_⟩
  · by_cases c : q = k
    · rw [c, swp_is1 _ rfl, h.head (k - 1) (by omega)]; exact .inl hl
    · rw [swp_is3 _ c (by omega)]; exact h.up q (by omega) h2
  · rw [swp_is3 _ (by omega) (by omega)]; exact h.head p (by omega)
theorem Dn.done {R : Nat → Int} {A A2 : Nat → Nat} {a m b k : Nat} (h : Dn R A A2 a m b k) (hp : Pre R A a m b) (hm : b = m + 1) (hk : k ≤ m) (hr : ∀ p, a ≤ p → p < k → ¬ R (A p) < R (A m)) : Sorted R A2 a b :=
  h.hole.close (fun p h1 h2 => by
    rw [h.head p h2]
    have := hp.x p m h1 (by omega) (Nat.le_refl _) (by omega)
    have := hr p h1 h2
    unfold ltR; omega) h.up
structure Cut3 (R : Nat → Int) (A : Nat → Nat) (a m b mid s : Nat) : Prop where
  sa : a ≤ s
  sm : s ≤ m
  smid : s ≤ mid
  me : m ≤ mid + m - s
  eb : mid + m - s ≤ b
  lo : s = a ∨ mid + m - s = b ∨ ¬ R (A (s - 1)) < R (A (mid + m - s))
  hi : s = m ∨ mid + m - s = m ∨ R (A s) < R (A (mid + m - s - 1))
theorem rot_triv1 (A : Nat → Nat) (m b : Nat) (h : m ≤ b) : rot A m m b = A := by
  funext k
  by_cases c : m ≤ k ∧ k < b
  · rw [rot_lo c.1 (by omega)]; congr 1; omega
  · rw [rot_out (Nat.le_refl _) h (by omega)]
theorem rot_triv2 (A : Nat → Nat) (a m : Nat) (h : a ≤ m) : rot A a m m = A := by
  funext k
  by_cases c : a ≤ k ∧ k < m
  · rw [rot_hi (by omega) c.2]; congr 1; omega
  · rw [rot_out h (Nat.le_refl _) (by omega)]
theorem cut_pre1 {R : Nat → Int} {A : Nat → Nat} {a m b mid s : Nat} (hp : Pre R A a m b) (hc : Cut3 R A a m b mid s) (hmid : mid < b) : Pre R (rot A s m (mid + m - s)) a s mid := by
  obtain ⟨c1, c2, c3, c4, c5, _, _⟩ := hc
  have e1 : ∀ k, k < s → rot A s m (mid + m - s) k = A k := fun k h => rot_out c2 c4 (.inl h)
  have e2 : ∀ k, s ≤ k → k < mid → rot A s m (mid + m - s) k = A (k - s + m) := fun k h1 h2 => rot_lo h1 (by omega)
  refine ⟨fun p q h1 h2 h3 => ?_, fun p q h1 h2 h3 => ?_, fun p q h1 h2 h3 h4 => ?_⟩
  · rw [e1 p (by omega), e1 q h3]; exact hp.s1 p q h1 h2 (by omega)
  · rw [e2 p h1 (by omega), e2 q (by omega) h3]; exact hp.s2 _ _ (by omega) (by omega) (by omega)
  · rw [e1 p h2, e2 q h3 h4]; exact hp.x _ _ h1 (by omega) (by omega) (by omega)
theorem cut_pre2 {R : Nat → Int} {A : Nat → Nat} {a m b mid s : Nat} (hp : Pre R A a m b) (hc : Cut3 R A a m b mid s) (hmid : mid < b) : Pre R (rot A s m (mid + m - s)) mid (mid + m - s) b := by
  obtain ⟨c1, c2, c3, c4, c5, _, _⟩ := hc
  have e1 : ∀ k, mid + m - s ≤ k → rot A s m (mid + m - s) k = A k := fun k h => rot_out c2 c4 (.inr h)
  have e2 : ∀ k, mid ≤ k → k < mid + m - s → rot A s m (mid + m - s) k = A (k - (mid - s)) := fun k h1 h2 => by
    rw [rot_hi (by omega) h2]; congr 1; omega
  refine ⟨fun p q h1 h2 h3 => ?_, fun p q h1 h2 h3 => ?_, fun p q h1 h2 h3 h4 => ?_⟩
  · rw [e2 p h1 (by omega), e2 q (by omega) h3]; exact hp.s1 _ _ (by omega) (by omega) (by omega)
  · rw [e1 p h1, e1 q (by omega)]; exact hp.s2 p q (by omega) h2 h3
  · rw [e2 p h1 h2, e1 q h3]; exact hp.x _ _ (by omega) (by omega) (by omega) h4
theorem cut_cross {R : Nat → Int} {A : Nat → Nat} {a m b mid s : Nat} (hp : Pre R A a m b) (hc : Cut3 R A a m b mid s) (hmid : mid < b) (p q : Nat) (h1 : a ≤ p) (h2 : p < mid) (h3 : mid ≤ q) (h4 : q < b) : ltR R (rot A s m (mid + m - s) p) (rot A s m (mid + m - s) q) := by
  obtain ⟨c1, c2, c3, c4, c5, lo, hi⟩ := hc
  have e1 : ∀ k, k < s → rot A s m (mid + m - s) k = A k := fun k h => rot_out c2 c4 (.inl h)
  have e2 : ∀ k, s ≤ k → k < mid → rot A s m (mid + m - s) k = A (k - s + m) := fun k h1 h2 => rot_lo h1 (by omega)
  have e3 : ∀ k, mid + m - s ≤ k → rot A s m (mid + m - s) k = A k := fun k h => rot_out c2 c4 (.inr h)
  have e4 : ∀ k, mid ≤ k → k < mid + m - s → rot A s m (mid + m - s) k = A (k - (mid - s)) := fun k h1 h2 => by
    rw [rot_hi (by omega) h2]; congr 1; omega
  by_cases cp : p < s
  · rw [e1 p cp]
    by_cases cq : mid + m - s ≤ q
    · rw [e3 q cq]
      have l1 : ¬ R (A (s - 1)) < R (A (mid + m - s)) := by
        rcases lo with h | h | h
        · omega
        · omega
        · exact h
      have l2 := sorted_R hp.s1 p (s - 1) h1 (by omega) (by omega)
      have l3 := sorted_R hp.s2 (mid + m - s) q c4 cq h4
      have l4 := hp.x p q h1 (by omega) (by omega) h4
      unfold ltR; omega
    · rw [e4 q h3 (by omega)]
      exact hp.s1 _ _ h1 (by omega) (by omega)
  · rw [e2 p (by omega) h2]
    by_cases cq : mid + m - s ≤ q
    · rw [e3 q cq]
      exact hp.s2 _ _ (by omega) (by omega) h4
    · rw [e4 q h3 (by omega)]
      have l1 : R (A s) < R (A (mid + m - s - 1)) := by
        rcases hi with h | h | h
        · omega
        · omega
        · exact h
      have l2 := sorted_R hp.s2 (p - s + m) (mid + m - s - 1) (by omega) (by omega) (by omega)
      have l3 := sorted_R hp.s1 s (q - (mid - s)) c1 (by omega) (by omega)
      exact .inl (by omega)
set_option maxHeartbeats 4000000 in
set_option maxRecDepth 100000 in
theorem symMerge_c1 {w0 : World} {g n B h : Nat} {R : Nat → Int} (hR : RestW w0 g n B h R) (A : Nat → Nat) (W : World) (a m b : Nat) (hS : SortW w0 g n A W) (hA : ∀ k, k < n → A k < n) (hP : Pre R A a m b) (h1 : a < m) (h2 : m < b) (h3 : b ≤ n) (k1 : m = a + 1) :
    Calls Try.prog 63 #[.iface 79 (rkV g n B), .int .i64 a, .int .i64 m, .int .i64 b] W fun e w' => e = .returned (.tuple #[]) ∧ ∃ A', SortW w0 g n A' w' ∧ Sw a b A A' ∧ Sorted R A' a b := by
  have hlt := hR.lt
  have HC : ∀ {A : Nat → Nat} {W : World} (hS : SortW w0 g n A W) (i j : Nat) (x y : Int) (hx : x = i) (hy : y = j) (hi : i < n) (hj : j < n), Calls Try.prog 92 #[rkV g n B, .int .i64 x, .int .i64 y] W fun e w' => e = .returned (.tuple #[]) ∧ SortW w0 g n (swp A i j) w' := fun hS i j x y hx hy hi hj => by subst hx hy; exact swap_calls hlt hS i j hi hj
  have HL : ∀ {A : Nat → Nat} {W : World} (hS : SortW w0 g n A W) (i j : Nat) (x y : Int) (bo : Bool) (hx : x = i) (hy : y = j) (hi : i < n) (hj : j < n) (hAi : A i < n) (hAj : A j < n) (hb : decide (R (A j) < R (A i)) = bo), Calls Try.prog 91 #[rkV g n B, .int .i64 x, .int .i64 y] W fun e w' => e = .returned (.bool bo) ∧ SortW w0 g n A w' := fun hS i j x y bo hx hy hi hj hAi hAj hb => by subst hx hy hb; exact less_calls hR hS i j hi hj hAi hAj
  have HT : ∀ {A : Nat → Nat} {W : World} (hS : SortW w0 g n A W) (a m b : Nat) (x y z : Int) (hx : x = a) (hy : y = m) (hz : z = b) (h1 : a < m) (h2 : m < b) (h3 : b ≤ n), Calls Try.prog 69 #[.iface 79 (rkV g n B), .int .i64 x, .int .i64 y, .int .i64 z] W fun e w' => e = .returned (.tuple #[]) ∧ SortW w0 g n (rot A a m b) w' ∧ Sw a b A (rot A a m b) := fun hS a m b x y z hx hy hz h1 h2 h3 => rotate_at hlt hS a m b x y z hx hy hz h1 h2 h3
  have hF := finds_swap g n B
  have hG := finds_less g n B
  generalize rkV g n B = rv at HC HL HT hF hG ⊢
  have HC := Aside0.mk @HC
  have HL := Aside0.mk @HL
  have HT := Aside0.mk @HT
  have HF := Aside0.mk hF
  have HG := Aside0.mk hG
  clear hF hG hR
  have HS := Aside0.mk hS
  have HA := Aside0.mk hA
  have HP := Aside0.mk hP
  clear hS hA hP


  have d1 : ((m : Int) - (a : Int) == 1) = true := by simp; omega
  have K1 := Aside0.mk k1
  clear k1
  go_enter Try.func63, Try.ntmps63
  go_wp2
  go_loopw [8, 9] (fun u v wr => ∃ (i j : Nat), u = .int .i64 i ∧ v = .int .i64 j ∧ m ≤ i ∧ i ≤ j ∧ j ≤ b ∧ Aside0 (SortW w0 g n A wr) ∧ Aside0 (i = m ∨ R (A a) < R (A (i - 1))) ∧ Aside0 (j = b ∨ ¬ R (A a) < R (A j))) (fun u v _ => (intOf v).toNat - (intOf u).toNat)
  case atStart => exact ⟨m, b, rfl, rfl, Nat.le_refl _, by omega, Nat.le_refl _, HS, ⟨.inl rfl⟩, ⟨.inl rfl⟩⟩
  case round =>
    obtain ⟨i, j, rfl, rfl, hi, hij, hj, HS1, HI, HJ⟩ := hrel
    by_cases c1 : i < j
    · have d2 : decide ((i : Int) < (j : Int)) = true := decide_eq_true (by omega)
      obtain ⟨c, hc⟩ : ∃ c, (i + j) / 2 = c := ⟨_, rfl⟩
      have hc1 : i ≤ c := by omega
      have hc2 : c < j := by omega
      have hcI : ((i : Int) + (j : Int)) / 2 = (c : Int) := by omega
      have b1 : A c < n := HA.out c (by omega)
      have b2 : A a < n := HA.out a (by omega)
      clear hc
      by_cases c3 : R (A a) < R (A c)
      · have HB := Aside0.mk (show decide (R (A a) < R (A c)) = true from decide_eq_true c3)
        have C3 := Aside0.mk c3
        clear c3
        go_wp2_with (first | ((with_reducible refine gate_dst (N := 41) rfl ?_); refine goesI_ (some 41) rfl rfl Try.func91 (by kernel_rfl) rfl #[.int .i64 (c : Int), .int .i64 (a : Int)] rfl rfl (by (try simp only [List.map_toArray, List.map_cons, List.map_nil]); first | done | rfl) HG.out ?_; refine (HL.out HS1.out c a _ _ true rfl rfl (by omega) (by omega) b1 b2 HB.out).mono ?_; rintro e w' ⟨rfl, hS3⟩; refine ⟨_, rfl, ?_⟩))
        go_roundw
        case rel => exact ⟨c + 1, j, by go_num, rfl, by omega, by omega, hj, ⟨hS3⟩, ⟨.inr (by rw [show c + 1 - 1 = c by omega]; exact C3.out)⟩, HJ⟩
        case measure => simp [intOf]; omega
      · have HB := Aside0.mk (show decide (R (A a) < R (A c)) = false from decide_eq_false c3)
        have C3 := Aside0.mk c3
        clear c3
        go_wp2_with (first | ((with_reducible refine gate_dst (N := 41) rfl ?_); refine goesI_ (some 41) rfl rfl Try.func91 (by kernel_rfl) rfl #[.int .i64 (c : Int), .int .i64 (a : Int)] rfl rfl (by (try simp only [List.map_toArray, List.map_cons, List.map_nil]); first | done | rfl) HG.out ?_; refine (HL.out HS1.out c a _ _ false rfl rfl (by omega) (by omega) b1 b2 HB.out).mono ?_; rintro e w' ⟨rfl, hS3⟩; refine ⟨_, rfl, ?_⟩))
        go_roundw
        case rel => exact ⟨i, c, rfl, by go_num, hi, by omega, by omega, ⟨hS3⟩, HI, ⟨.inr C3.out⟩⟩
        case measure => simp [intOf]; omega
    · have d2 : decide ((i : Int) < (j : Int)) = false := decide_eq_false (by omega)
      have hij2 : i = j := by omega
      subst hij2
      have HQ1 : Aside0 (∀ k, m ≤ k → k < i → R (A a) < R (A k)) := ⟨fun k q1 q2 => by
        rcases HI.out with e | e
        · omega
        · have := sorted_R HP.out.s2 k (i - 1) q1 (by omega) (by omega)
          omega⟩
      have HQ2 : Aside0 (∀ q, i ≤ q → q < b → ¬ R (A a) < R (A q)) := ⟨fun q q1 q2 => by
        rcases HJ.out with e | e
        · omega
        · have := sorted_R HP.out.s2 i q hi q1 q2
          omega⟩
      go_wp2_with fail
      go_loopw [11] (fun u wr => ∃ (k : Nat) (A2 : Nat → Nat), u = .int .i64 k ∧ a ≤ k ∧ k < i ∧ Aside0 (SortW w0 g n A2 wr) ∧ Aside0 (Up R A A2 a b k) ∧ Aside0 (Sw a b A A2)) (fun u _ => i - (intOf u).toNat)
      case atStart => exact ⟨a, A, rfl, Nat.le_refl _, by omega, HS1, ⟨.start HP.out K1.out⟩, ⟨.refl _⟩⟩
      case round =>
        obtain ⟨k, A2, rfl, hk1, hk2, HS2, HU, HW⟩ := hrel
        by_cases c4 : k + 1 < i
        · have d4 : decide ((k : Int) < (i : Int) - 1) = true := decide_eq_true (by omega)
          go_wp2_with (first | ((with_reducible refine gate_dst (N := 56) rfl ?_); refine goesI_ (some 56) rfl rfl Try.func92 (by kernel_rfl) rfl #[.int .i64 (k : Int), .int .i64 ((k : Int) + 1)] rfl rfl (by (try simp only [List.map_toArray, List.map_cons, List.map_nil]); first | done | rfl) HF.out ?_; refine (HC.out HS2.out k (k + 1) _ _ rfl (by omega) (by omega) (by omega)).mono ?_; rintro e w4 ⟨rfl, hS4⟩; refine ⟨_, rfl, ?_⟩))
          go_roundw
          case rel => exact ⟨k + 1, swp A2 k (k + 1), by go_num, by omega, c4, ⟨hS4⟩, ⟨HU.out.next hk1 (by omega) (HQ1.out (k + 1) (by have := K1.out; omega) c4)⟩, ⟨.step k (k + 1) HW.out (by omega) (by omega)⟩⟩
          case measure => simp [intOf]; omega
        · have d4 : decide ((k : Int) < (i : Int) - 1) = false := decide_eq_false (by omega)
          go_wp2
          refine bodyPost_ret (results_none rfl _ _ _) rfl ?_
          exact ⟨rfl, A2, HS2.out, HW.out, HU.out.done HP.out K1.out hk1 (fun q q1 q2 => Int.not_lt.mpr (HQ2.out q (by omega) q2))⟩
set_option maxHeartbeats 4000000 in
set_option maxRecDepth 100000 in
theorem symMerge_c2 {w0 : World} {g n B h : Nat} {R : Nat → Int} (hR : RestW w0 g n B h R) (A : Nat → Nat) (W : World) (a m b : Nat) (hS : SortW w0 g n A W) (hA : ∀ k, k < n → A k < n) (hP : Pre R A a m b) (h1 : a < m) (h2 : m < b) (h3 : b ≤ n) (k1 : ¬ m = a + 1) (k2 : b = m + 1) :
    Calls Try.prog 63 #[.iface 79 (rkV g n B), .int .i64 a, .int .i64 m, .int .i64 b] W fun e w' => e = .returned (.tuple #[]) ∧ ∃ A', SortW w0 g n A' w' ∧ Sw a b A A' ∧ Sorted R A' a b := by
  have hlt := hR.lt
  have HC : ∀ {A : Nat → Nat} {W : World} (hS : SortW w0 g n A W) (i j : Nat) (x y : Int) (hx : x = i) (hy : y = j) (hi : i < n) (hj : j < n), Calls Try.prog 92 #[rkV g n B, .int .i64 x, .int .i64 y] W fun e w' => e = .returned (.tuple #[]) ∧ SortW w0 g n (swp A i j) w' := fun hS i j x y hx hy hi hj => by subst hx hy; exact swap_calls hlt hS i j hi hj
  have HL : ∀ {A : Nat → Nat} {W : World} (hS : SortW w0 g n A W) (i j : Nat) (x y : Int) (bo : Bool) (hx : x = i) (hy : y = j) (hi : i < n) (hj : j < n) (hAi : A i < n) (hAj : A j < n) (hb : decide (R (A j) < R (A i)) = bo), Calls Try.prog 91 #[rkV g n B, .int .i64 x, .int .i64 y] W fun e w' => e = .returned (.bool bo) ∧ SortW w0 g n A w' := fun hS i j x y bo hx hy hi hj hAi hAj hb => by subst hx hy hb; exact less_calls hR hS i j hi hj hAi hAj
  have HT : ∀ {A : Nat → Nat} {W : World} (hS : SortW w0 g n A W) (a m b : Nat) (x y z : Int) (hx : x = a) (hy : y = m) (hz : z = b) (h1 : a < m) (h2 : m < b) (h3 : b ≤ n), Calls Try.prog 69 #[.iface 79 (rkV g n B), .int .i64 x, .int .i64 y, .int .i64 z] W fun e w' => e = .returned (.tuple #[]) ∧ SortW w0 g n (rot A a m b) w' ∧ Sw a b A (rot A a m b) := fun hS a m b x y z hx hy hz h1 h2 h3 => rotate_at hlt hS a m b x y z hx hy hz h1 h2 h3
  have hF := finds_swap g n B
  have hG := finds_less g n B
  generalize rkV g n B = rv at HC HL HT hF hG ⊢
  have HC := Aside0.mk @HC
  have HL := Aside0.mk @HL
  have HT := Aside0.mk @HT
  have HF := Aside0.mk hF
  have HG := Aside0.mk hG
  clear hF hG hR
  have HS := Aside0.mk hS
  have HA := Aside0.mk hA
  have HP := Aside0.mk hP
  clear hS hA hP


  have d1 : ((m : Int) - (a : Int) == 1) = false := by simp; omega
  have d2 : ((b : Int) - (m : Int) == 1) = true := by simp; omega
  have K2 := Aside0.mk k2
  clear k2
  go_enter Try.func63, Try.ntmps63
  go_wp2
  go_loopw [12, 13] (fun u v wr => ∃ (i j : Nat), u = .int .i64 i ∧ v = .int .i64 j ∧ a ≤ i ∧ i ≤ j ∧ j ≤ m ∧ Aside0 (SortW w0 g n A wr) ∧ Aside0 (i = a ∨ ¬ R (A (i - 1)) < R (A m)) ∧ Aside0 (j = m ∨ R (A j) < R (A m))) (fun u v _ => (intOf v).toNat - (intOf u).toNat)
  case atStart => exact ⟨a, m, rfl, rfl, Nat.le_refl _, by omega, Nat.le_refl _, HS, ⟨.inl rfl⟩, ⟨.inl rfl⟩⟩
  case round =>
    obtain ⟨i, j, rfl, rfl, hi, hij, hj, HS1, HI, HJ⟩ := hrel
    by_cases c1 : i < j
    · have d3 : decide ((i : Int) < (j : Int)) = true := decide_eq_true (by omega)
      obtain ⟨c, hc⟩ : ∃ c, (i + j) / 2 = c := ⟨_, rfl⟩
      have hc1 : i ≤ c := by omega
      have hc2 : c < j := by omega
      have hcI : ((i : Int) + (j : Int)) / 2 = (c : Int) := by omega
      have b1 : A m < n := HA.out m (by omega)
      have b2 : A c < n := HA.out c (by omega)
      clear hc
      by_cases c3 : R (A c) < R (A m)
      · have HB := Aside0.mk (show decide (R (A c) < R (A m)) = true from decide_eq_true c3)
        have C3 := Aside0.mk c3
        clear c3
        go_wp2_with (first | ((with_reducible refine gate_dst (N := 75) rfl ?_); refine goesI_ (some 75) rfl rfl Try.func91 (by kernel_rfl) rfl #[.int .i64 (m : Int), .int .i64 (c : Int)] rfl rfl (by (try simp only [List.map_toArray, List.map_cons, List.map_nil]); first | done | rfl) HG.out ?_; refine (HL.out HS1.out m c _ _ true rfl rfl (by omega) (by omega) b1 b2 HB.out).mono ?_; rintro e w' ⟨rfl, hS3⟩; refine ⟨_, rfl, ?_⟩))
        go_roundw
        case rel => exact ⟨i, c, rfl, by go_num, hi, by omega, by omega, ⟨hS3⟩, HI, ⟨.inr C3.out⟩⟩
        case measure => simp [intOf]; omega
      · have HB := Aside0.mk (show decide (R (A c) < R (A m)) = false from decide_eq_false c3)
        have C3 := Aside0.mk c3
        clear c3
        go_wp2_with (first | ((with_reducible refine gate_dst (N := 75) rfl ?_); refine goesI_ (some 75) rfl rfl Try.func91 (by kernel_rfl) rfl #[.int .i64 (m : Int), .int .i64 (c : Int)] rfl rfl (by (try simp only [List.map_toArray, List.map_cons, List.map_nil]); first | done | rfl) HG.out ?_; refine (HL.out HS1.out m c _ _ false rfl rfl (by omega) (by omega) b1 b2 HB.out).mono ?_; rintro e w' ⟨rfl, hS3⟩; refine ⟨_, rfl, ?_⟩))
        go_roundw
        case rel => exact ⟨c + 1, j, by go_num, rfl, by omega, by omega, hj, ⟨hS3⟩, ⟨.inr (by rw [show c + 1 - 1 = c by omega]; exact C3.out)⟩, HJ⟩
        case measure => simp [intOf]; omega
    · have d3 : decide ((i : Int) < (j : Int)) = false := decide_eq_false (by omega)
      have hij2 : i = j := by omega
      subst hij2
      have HQ1 : Aside0 (∀ p, a ≤ p → p < i → ¬ R (A p) < R (A m)) := ⟨fun k q1 q2 => by
        rcases HI.out with e | e
        · omega
        · have := sorted_R HP.out.s1 k (i - 1) q1 (by omega) (by omega)
          omega⟩
      have HQ2 : Aside0 (∀ q, i ≤ q → q < m → R (A q) < R (A m)) := ⟨fun q q1 q2 => by
        rcases HJ.out with e | e
        · omega
        · have := sorted_R HP.out.s1 i q hi q1 q2
          omega⟩
      go_wp2_with fail
      go_loopw [15] (fun u wr => ∃ (k : Nat) (A2 : Nat → Nat), u = .int .i64 k ∧ i ≤ k ∧ k ≤ m ∧ Aside0 (SortW w0 g n A2 wr) ∧ Aside0 (Dn R A A2 a m b k) ∧ Aside0 (Sw a b A A2)) (fun u _ => (intOf u).toNat)
      case atStart => exact ⟨m, A, rfl, hj, Nat.le_refl _, HS1, ⟨.start HP.out K2.out⟩, ⟨.refl _⟩⟩
      case round =>
        obtain ⟨k, A2, rfl, hk1, hk2, HS2, HU, HW⟩ := hrel
        by_cases c4 : i < k
        · have d4 : decide ((i : Int) < (k : Int)) = true := decide_eq_true (by omega)
          go_wp2_with (first | ((with_reducible refine gate_dst (N := 90) rfl ?_); refine goesI_ (some 90) rfl rfl Try.func92 (by kernel_rfl) rfl #[.int .i64 (k : Int), .int .i64 ((k : Int) - 1)] rfl rfl (by (try simp only [List.map_toArray, List.map_cons, List.map_nil]); first | done | rfl) HF.out ?_; refine (HC.out HS2.out k (k - 1) _ _ rfl (by omega) (by omega) (by omega)).mono ?_; rintro e w4 ⟨rfl, hS4⟩; refine ⟨_, rfl, ?_⟩))
          go_roundw
          case rel => exact ⟨k - 1, swp A2 k (k - 1), by go_num, by omega, by omega, ⟨hS4⟩, ⟨HU.out.next (by omega) (by omega) (HQ2.out (k - 1) (by omega) (by omega))⟩, ⟨.step k (k - 1) HW.out (by omega) (by omega)⟩⟩
          case measure => simp [intOf]; omega
        · have d4 : decide ((i : Int) < (k : Int)) = false := decide_eq_false (by omega)
          go_wp2
          refine bodyPost_ret (results_none rfl _ _ _) rfl ?_
          exact ⟨rfl, A2, HS2.out, HW.out, HU.out.done HP.out K2.out hk2 (fun p q1 q2 => Int.not_lt.mpr (HQ1.out p q1 (by omega)))⟩
set_option maxHeartbeats 4000000 in
set_option maxRecDepth 100000 in
theorem symMerge_c3a {w0 : World} {g n B h : Nat} {R : Nat → Int} (hR : RestW w0 g n B h R) (N : Nat) (ih : ∀ (A : Nat → Nat) (W : World) (a m b : Nat) (x y z : Int), x = a → y = m → z = b → SortW w0 g n A W → (∀ k, k < n → A k < n) → Pre R A a m b → a < m → m < b → b ≤ n → b - a ≤ N →
    Calls Try.prog 63 #[.iface 79 (rkV g n B), .int .i64 x, .int .i64 y, .int .i64 z] W fun e w' => e = .returned (.tuple #[]) ∧ ∃ A', SortW w0 g n A' w' ∧ Sw a b A A' ∧ Sorted R A' a b) (A : Nat → Nat) (W : World) (a m b : Nat) (hS : SortW w0 g n A W) (hA : ∀ k, k < n → A k < n) (hP : Pre R A a m b) (h1 : a < m) (h2 : m < b) (h3 : b ≤ n) (h4 : b - a ≤ N + 1) (k1 : ¬ m = a + 1) (k2 : ¬ b = m + 1) (mid : Nat) (hmid : (a + b) / 2 = mid) (k3 : mid < m) :
    Calls Try.prog 63 #[.iface 79 (rkV g n B), .int .i64 a, .int .i64 m, .int .i64 b] W fun e w' => e = .returned (.tuple #[]) ∧ ∃ A', SortW w0 g n A' w' ∧ Sw a b A A' ∧ Sorted R A' a b := by
  have hlt := hR.lt
  have HC : ∀ {A : Nat → Nat} {W : World} (hS : SortW w0 g n A W) (i j : Nat) (x y : Int) (hx : x = i) (hy : y = j) (hi : i < n) (hj : j < n), Calls Try.prog 92 #[rkV g n B, .int .i64 x, .int .i64 y] W fun e w' => e = .returned (.tuple #[]) ∧ SortW w0 g n (swp A i j) w' := fun hS i j x y hx hy hi hj => by subst hx hy; exact swap_calls hlt hS i j hi hj
  have HL : ∀ {A : Nat → Nat} {W : World} (hS : SortW w0 g n A W) (i j : Nat) (x y : Int) (bo : Bool) (hx : x = i) (hy : y = j) (hi : i < n) (hj : j < n) (hAi : A i < n) (hAj : A j < n) (hb : decide (R (A j) < R (A i)) = bo), Calls Try.prog 91 #[rkV g n B, .int .i64 x, .int .i64 y] W fun e w' => e = .returned (.bool bo) ∧ SortW w0 g n A w' := fun hS i j x y bo hx hy hi hj hAi hAj hb => by subst hx hy hb; exact less_calls hR hS i j hi hj hAi hAj
  have HT : ∀ {A : Nat → Nat} {W : World} (hS : SortW w0 g n A W) (a m b : Nat) (x y z : Int) (hx : x = a) (hy : y = m) (hz : z = b) (h1 : a < m) (h2 : m < b) (h3 : b ≤ n), Calls Try.prog 69 #[.iface 79 (rkV g n B), .int .i64 x, .int .i64 y, .int .i64 z] W fun e w' => e = .returned (.tuple #[]) ∧ SortW w0 g n (rot A a m b) w' ∧ Sw a b A (rot A a m b) := fun hS a m b x y z hx hy hz h1 h2 h3 => rotate_at hlt hS a m b x y z hx hy hz h1 h2 h3
  have hF := finds_swap g n B
  have hG := finds_less g n B
  generalize rkV g n B = rv at HC HL HT hF hG ih ⊢
  have HC := Aside0.mk @HC
  have HL := Aside0.mk @HL
  have HT := Aside0.mk @HT
  have HF := Aside0.mk hF
  have HG := Aside0.mk hG
  clear hF hG hR
  have HS := Aside0.mk hS
  have HA := Aside0.mk hA
  have HP := Aside0.mk hP
  clear hS hA hP
  have IH := Aside0.mk ih
  clear ih
  have d1 : ((m : Int) - (a : Int) == 1) = false := by simp; omega
  have d0 : ((b : Int) - (m : Int) == 1) = false := by simp; omega
  have hm1 : 2 * mid ≤ a + b := by omega
  have hm2 : a + b ≤ 2 * mid + 1 := by omega
  have hmI : ((a : Int) + (b : Int)) / 2 = (mid : Int) := by omega
  clear hmid
  obtain ⟨lo, hlo⟩ : ∃ lo, mid + m - b = lo := ⟨_, rfl⟩
  obtain ⟨hi, hhi⟩ : ∃ hi, hi = mid := ⟨_, rfl⟩
  have hloI : (mid : Int) + (m : Int) - (b : Int) = (lo : Int) := by omega
  have hlohi : lo ≤ hi := by omega
  have hal : a ≤ lo := by omega
  have d2 : decide ((mid : Int) < (m : Int)) = true := decide_eq_true (by omega)
  go_enter Try.func63, Try.ntmps63
  go_wp2_with fail
  go_loopw [18, 19] (fun u v wr => ∃ (s r : Nat), u = .int .i64 s ∧ v = .int .i64 r ∧ lo ≤ s ∧ s ≤ r ∧ r ≤ hi ∧ Aside0 (SortW w0 g n A wr) ∧ Aside0 (s = lo ∨ ¬ R (A (s - 1)) < R (A (mid + m - s))) ∧ Aside0 (r = hi ∨ R (A r) < R (A (mid + m - 1 - r)))) (fun u v _ => (intOf v).toNat - (intOf u).toNat)
  case atStart => exact ⟨lo, hi, by go_num, by go_num, Nat.le_refl _, by omega, Nat.le_refl _, HS, ⟨.inl rfl⟩, ⟨.inl rfl⟩⟩
  case round =>
    obtain ⟨s, r, rfl, rfl, hs, hsr, hr, HS1, HI, HJ⟩ := hrel
    by_cases c1 : s < r
    · have d3 : decide ((s : Int) < (r : Int)) = true := decide_eq_true (by omega)
      obtain ⟨c, hc⟩ : ∃ c, (s + r) / 2 = c := ⟨_, rfl⟩
      have hc1 : s ≤ c := by omega
      have hc2 : c < r := by omega
      have hcI : ((s : Int) + (r : Int)) / 2 = (c : Int) := by omega
      obtain ⟨e, he⟩ : ∃ e, mid + m - 1 - c = e := ⟨_, rfl⟩
      have heb : e < b := by omega
      have b1 : A e < n := HA.out e (by omega)
      have b2 : A c < n := HA.out c (by omega)
      have heI : (mid : Int) + (m : Int) - 1 - (c : Int) = (e : Int) := by omega
      have HE := Aside0.mk he
      clear hc he
      by_cases c3 : R (A c) < R (A e)
      · have HB := Aside0.mk (show decide (R (A c) < R (A e)) = true from decide_eq_true c3)
        have C3 := Aside0.mk c3
        clear c3
        go_wp2_with (first | ((with_reducible refine gate_dst (N := 125) rfl ?_); refine goesI_ (some 125) rfl rfl Try.func91 (by kernel_rfl) rfl #[.int .i64 (e : Int), .int .i64 (c : Int)] rfl rfl (by (try simp only [List.map_toArray, List.map_cons, List.map_nil]); first | done | rfl) HG.out ?_; refine (HL.out HS1.out e c _ _ true rfl rfl (by omega) (by omega) b1 b2 HB.out).mono ?_; rintro e w' ⟨rfl, hS3⟩; refine ⟨_, rfl, ?_⟩))
        go_roundw
        case rel => exact ⟨s, c, rfl, by go_num, hs, by omega, by omega, ⟨hS3⟩, HI, ⟨.inr (by rw [HE.out]; exact C3.out)⟩⟩
        case measure => simp [intOf]; omega
      · have HB := Aside0.mk (show decide (R (A c) < R (A e)) = false from decide_eq_false c3)
        have C3 := Aside0.mk c3
        clear c3
        go_wp2_with (first | ((with_reducible refine gate_dst (N := 125) rfl ?_); refine goesI_ (some 125) rfl rfl Try.func91 (by kernel_rfl) rfl #[.int .i64 (e : Int), .int .i64 (c : Int)] rfl rfl (by (try simp only [List.map_toArray, List.map_cons, List.map_nil]); first | done | rfl) HG.out ?_; refine (HL.out HS1.out e c _ _ false rfl rfl (by omega) (by omega) b1 b2 HB.out).mono ?_; rintro e w' ⟨rfl, hS3⟩; refine ⟨_, rfl, ?_⟩))
        go_roundw
        case rel => exact ⟨c + 1, r, by go_num, rfl, by omega, by omega, hr, ⟨hS3⟩, ⟨.inr (by rw [show c + 1 - 1 = c by omega, show mid + m - (c + 1) = mid + m - 1 - c by omega, HE.out]; exact C3.out)⟩, HJ⟩
        case measure => simp [intOf]; omega
    · have d3 : decide ((s : Int) < (r : Int)) = false := decide_eq_false (by omega)
      obtain rfl : s = r := by omega
      obtain ⟨en, hen⟩ : ∃ en, mid + m - s = en := ⟨_, rfl⟩
      have henI : (mid : Int) + (m : Int) - (s : Int) = (en : Int) := by omega
      have HCut : Aside0 (Cut3 R A a m b mid s) := ⟨⟨by omega, by omega, by omega, by omega, by omega, by
        rcases HI.out with e | e
        · omega
        · exact .inr (.inr e), by
        rcases HJ.out with e | e
        · omega
        · exact .inr (.inr (by rw [show mid + m - s - 1 = mid + m - 1 - s by omega]; exact e))⟩⟩
      have cs := HCut.out.sm
      have csm := HCut.out.smid
      have ca := HCut.out.sa
      have ce := HCut.out.eb
      have cme := HCut.out.me
      rw [hen] at ce cme
      have HEn := Aside0.mk hen
      clear hen
      go_upto_region 39 with fail
      go_cut [140] (fun v wc => v = .bool (decide (s < m ∧ m < en)) ∧ Aside0 (SortW w0 g n A wc))
      case first =>
        by_cases t1 : s < m
        · have t1' : decide ((s : Int) < (m : Int)) = true := decide_eq_true (by omega)
          by_cases t2 : m < en
          · have t2' : decide ((m : Int) < (en : Int)) = true := decide_eq_true (by omega)
            have T := Aside0.mk (show decide (s < m ∧ m < en) = true from decide_eq_true ⟨t1, t2⟩)
            go_wp2
            go_meet
            case rel => exact ⟨congrArg Value.bool T.out.symm, HS1⟩
          · have t2' : decide ((m : Int) < (en : Int)) = false := decide_eq_false (by omega)
            have T := Aside0.mk (show decide (s < m ∧ m < en) = false from decide_eq_false (fun h => t2 h.2))
            go_wp2
            go_meet
            case rel => exact ⟨congrArg Value.bool T.out.symm, HS1⟩
        · have t1' : decide ((s : Int) < (m : Int)) = false := decide_eq_false (by omega)
          have T := Aside0.mk (show decide (s < m ∧ m < en) = false from decide_eq_false (fun h => t1 h.1))
          go_wp2
          go_meet
          case rel => exact ⟨congrArg Value.bool T.out.symm, HS1⟩
      case rest =>
        obtain ⟨rfl, HS2⟩ := hcut
        go_upto_if 140 with fail
        go_cut [22] (fun v wc => v = .int .i64 en ∧ Aside0 (SortW w0 g n (rot A s m en) wc) ∧ Aside0 (Sw a b A (rot A s m en)))
        case first =>
          by_cases T : s < m ∧ m < en
          · have td : decide (s < m ∧ m < en) = true := decide_eq_true T
            go_wp2_with (first | (go_at_call 69; refine (HT.out HS2.out s m en _ _ _ rfl rfl rfl T.1 T.2 (by omega)).mono ?_; rintro e w' ⟨rfl, hS3, hW3⟩))
            go_meet
            case rel => exact ⟨rfl, ⟨hS3⟩, ⟨hW3.mono ca ce⟩⟩
          · have td : decide (s < m ∧ m < en) = false := decide_eq_false T
            have e0 : rot A s m en = A := by
              by_cases q : s = m
              · rw [q]; exact rot_triv1 A m en cme
              · rw [show en = m by omega]; exact rot_triv2 A s m cs
            have E0 := Aside0.mk e0
            clear e0
            go_wp2
            go_meet
            case rel => exact ⟨rfl, ⟨by rw [E0.out]; exact HS2.out⟩, ⟨by rw [E0.out]; exact .refl _⟩⟩
        case rest =>
          obtain ⟨rfl, HS3, HW3⟩ := hcut
          have hmb : mid < b := by omega
          have P1 := cut_pre1 HP.out HCut.out hmb
          have P2 := cut_pre2 HP.out HCut.out hmb
          have PX := cut_cross HP.out HCut.out hmb
          rw [HEn.out] at P1 P2 PX
          have HA3 : Aside0 (∀ k, k < n → rot A s m en k < n) := ⟨HW3.out.all (n := n) (Q := fun v => v < n) h3 HA.out⟩
          obtain ⟨A3, hA3⟩ : ∃ A3, rot A s m en = A3 := ⟨_, rfl⟩
          rw [hA3] at P1 P2 PX HA3 HS3 HW3
          clear hA3
          have HP1 := Aside0.mk P1
          have HP2 := Aside0.mk P2
          have HPX := Aside0.mk PX
          clear P1 P2 PX
          go_upto_region 41 with fail
          go_cut [153] (fun v wc => v = .bool (decide (a < s ∧ s < mid)) ∧ Aside0 (SortW w0 g n A3 wc))
          case first =>
            by_cases t1 : a < s
            · have t1' : decide ((a : Int) < (s : Int)) = true := decide_eq_true (by omega)
              by_cases t2 : s < mid
              · have t2' : decide ((s : Int) < (mid : Int)) = true := decide_eq_true (by omega)
                have T := Aside0.mk (show decide (a < s ∧ s < mid) = true from decide_eq_true ⟨t1, t2⟩)
                go_wp2
                go_meet
                case rel => exact ⟨congrArg Value.bool T.out.symm, HS3⟩
              · have t2' : decide ((s : Int) < (mid : Int)) = false := decide_eq_false (by omega)
                have T := Aside0.mk (show decide (a < s ∧ s < mid) = false from decide_eq_false (fun h => t2 h.2))
                go_wp2
                go_meet
                case rel => exact ⟨congrArg Value.bool T.out.symm, HS3⟩
            · have t1' : decide ((a : Int) < (s : Int)) = false := decide_eq_false (by omega)
              have T := Aside0.mk (show decide (a < s ∧ s < mid) = false from decide_eq_false (fun h => t1 h.1))
              go_wp2
              go_meet
              case rel => exact ⟨congrArg Value.bool T.out.symm, HS3⟩
          case rest =>
            obtain ⟨rfl, HS4⟩ := hcut
            go_upto_if 153 with fail
            go_cut [22] (fun v wc => v = .int .i64 en ∧ ∃ A4, Aside0 (SortW w0 g n A4 wc) ∧ Aside0 (Sw a mid A3 A4) ∧ Aside0 (Sorted R A4 a mid))
            case first =>
              by_cases T : a < s ∧ s < mid
              · have td : decide (a < s ∧ s < mid) = true := decide_eq_true T
                go_wp2_with (first | (go_at_call 63; refine (IH.out A3 _ a s mid _ _ _ rfl rfl rfl HS4.out HA3.out HP1.out T.1 T.2 (by omega) (by omega)).mono ?_; rintro e w' ⟨rfl, A4, hS5, hW5, hO5⟩))
                go_meet
                case rel => exact ⟨rfl, A4, ⟨hS5⟩, ⟨hW5⟩, ⟨hO5⟩⟩
              · have td : decide (a < s ∧ s < mid) = false := decide_eq_false T
                have hO : Aside0 (Sorted R A3 a mid) := ⟨by
                  by_cases q : s = a
                  · rw [← q]; exact HP1.out.s2
                  · rw [show mid = s by omega]; exact HP1.out.s1⟩
                go_wp2
                go_meet
                case rel => exact ⟨rfl, A3, HS4, ⟨.refl _⟩, hO⟩
            case rest =>
              obtain ⟨rfl, A4, HS5, HW5, HO5⟩ := hcut
              have HA4 : Aside0 (∀ k, k < n → A4 k < n) := ⟨HW5.out.all (n := n) (Q := fun v => v < n) (by omega) HA3.out⟩
              have HP4 : Aside0 (Pre R A4 mid en b) := ⟨by
                have o : ∀ k, mid ≤ k → A4 k = A3 k := fun k hk => HW5.out.out k (.inr hk)
                refine ⟨fun p q q1 q2 q3 => ?_, fun p q q1 q2 q3 => ?_, fun p q q1 q2 q3 q4 => ?_⟩
                · rw [o p q1, o q (by omega)]; exact HP2.out.s1 p q q1 q2 q3
                · rw [o p (by omega), o q (by omega)]; exact HP2.out.s2 p q q1 q2 q3
                · rw [o p q1, o q (by omega)]; exact HP2.out.x p q q1 q2 q3 q4⟩
              have HPX4 : Aside0 (∀ p q, a ≤ p → p < mid → mid ≤ q → q < b → ltR R (A4 p) (A4 q)) := ⟨fun p q q1 q2 q3 q4 => by
                rw [HW5.out.out q (.inr q3)]
                exact HW5.out.img (Q := fun v => ltR R v (A3 q)) (fun k r1 r2 => HPX.out k q r1 r2 q3 q4) p q1 q2⟩
              have HW4 : Aside0 (Sw a b A A4) := ⟨HW3.out.trans (HW5.out.mono (Nat.le_refl _) (by omega))⟩
              go_upto_region 43 with fail
              go_cut [166] (fun v wc => v = .bool (decide (mid < en ∧ en < b)) ∧ Aside0 (SortW w0 g n A4 wc))
              case first =>
                by_cases t1 : mid < en
                · have t1' : decide ((mid : Int) < (en : Int)) = true := decide_eq_true (by omega)
                  by_cases t2 : en < b
                  · have t2' : decide ((en : Int) < (b : Int)) = true := decide_eq_true (by omega)
                    have T := Aside0.mk (show decide (mid < en ∧ en < b) = true from decide_eq_true ⟨t1, t2⟩)
                    go_wp2
                    go_meet
                    case rel => exact ⟨congrArg Value.bool T.out.symm, HS5⟩
                  · have t2' : decide ((en : Int) < (b : Int)) = false := decide_eq_false (by omega)
                    have T := Aside0.mk (show decide (mid < en ∧ en < b) = false from decide_eq_false (fun h => t2 h.2))
                    go_wp2
                    go_meet
                    case rel => exact ⟨congrArg Value.bool T.out.symm, HS5⟩
                · have t1' : decide ((mid : Int) < (en : Int)) = false := decide_eq_false (by omega)
                  have T := Aside0.mk (show decide (mid < en ∧ en < b) = false from decide_eq_false (fun h => t1 h.1))
                  go_wp2
                  go_meet
                  case rel => exact ⟨congrArg Value.bool T.out.symm, HS5⟩
              case rest =>
                obtain ⟨rfl, HS6⟩ := hcut
                by_cases T : mid < en ∧ en < b
                · have td : decide (mid < en ∧ en < b) = true := decide_eq_true T
                  go_wp2_with (first | (go_at_call 63; refine (IH.out A4 _ mid en b _ _ _ rfl rfl rfl HS6.out HA4.out HP4.out T.1 T.2 h3 (by omega)).mono ?_; rintro e w' ⟨rfl, A5, hS7, hW7, hO7⟩))
                  go_end0
                  refine ⟨rfl, A5, hS7, HW4.out.trans (hW7.mono (by omega) (Nat.le_refl _)), sorted_join (c := mid) ?_ hO7 ?_⟩
                  · intro p q q1 q2 q3
                    rw [hW7.out p (.inl (by omega)), hW7.out q (.inl q3)]
                    exact HO5.out p q q1 q2 q3
                  · intro p q q1 q2 q3 q4
                    rw [hW7.out p (.inl q2)]
                    exact hW7.img (Q := fun v => ltR R (A4 p) v) (fun k r1 r2 => HPX4.out p k q1 q2 r1 r2) q q3 q4
                · have td : decide (mid < en ∧ en < b) = false := decide_eq_false T
                  have hO : Aside0 (Sorted R A4 mid b) := ⟨by
                    by_cases q : en = b
                    · rw [← q]; exact HP4.out.s1
                    · rw [show mid = en by omega]; exact HP4.out.s2⟩
                  go_wp2
                  go_end0
                  exact ⟨rfl, A4, HS6.out, HW4.out, sorted_join HO5.out hO.out HPX4.out⟩
set_option maxHeartbeats 4000000 in
set_option maxRecDepth 100000 in
theorem symMerge_c3b {w0 : World} {g n B h : Nat} {R : Nat → Int} (hR : RestW w0 g n B h R) (N : Nat) (ih : ∀ (A : Nat → Nat) (W : World) (a m b : Nat) (x y z : Int), x = a → y = m → z = b → SortW w0 g n A W → (∀ k, k < n → A k < n) → Pre R A a m b → a < m → m < b → b ≤ n → b - a ≤ N →
    Calls Try.prog 63 #[.iface 79 (rkV g n B), .int .i64 x, .int .i64 y, .int .i64 z] W fun e w' => e = .returned (.tuple #[]) ∧ ∃ A', SortW w0 g n A' w' ∧ Sw a b A A' ∧ Sorted R A' a b) (A : Nat → Nat) (W : World) (a m b : Nat) (hS : SortW w0 g n A W) (hA : ∀ k, k < n → A k < n) (hP : Pre R A a m b) (h1 : a < m) (h2 : m < b) (h3 : b ≤ n) (h4 : b - a ≤ N + 1) (k1 : ¬ m = a + 1) (k2 : ¬ b = m + 1) (mid : Nat) (hmid : (a + b) / 2 = mid) (k3 : ¬ mid < m) :
    Calls Try.prog 63 #[.iface 79 (rkV g n B), .int .i64 a, .int .i64 m, .int .i64 b] W fun e w' => e = .returned (.tuple #[]) ∧ ∃ A', SortW w0 g n A' w' ∧ Sw a b A A' ∧ Sorted R A' a b := by
  have hlt := hR.lt
  have HC : ∀ {A : Nat → Nat} {W : World} (hS : SortW w0 g n A W) (i j : Nat) (x y : Int) (hx : x = i) (hy : y = j) (hi : i < n) (hj : j < n), Calls Try.prog 92 #[rkV g n B, .int .i64 x, .int .i64 y] W fun e w' => e = .returned (.tuple #[]) ∧ SortW w0 g n (swp A i j) w' := fun hS i j x y hx hy hi hj => by subst hx hy; exact swap_calls hlt hS i j hi hj
  have HL : ∀ {A : Nat → Nat} {W : World} (hS : SortW w0 g n A W) (i j : Nat) (x y : Int) (bo : Bool) (hx : x = i) (hy : y = j) (hi : i < n) (hj : j < n) (hAi : A i < n) (hAj : A j < n) (hb : decide (R (A j) < R (A i)) = bo), Calls Try.prog 91 #[rkV g n B, .int .i64 x, .int .i64 y] W fun e w' => e = .returned (.bool bo) ∧ SortW w0 g n A w' := fun hS i j x y bo hx hy hi hj hAi hAj hb => by subst hx hy hb; exact less_calls hR hS i j hi hj hAi hAj
  have HT : ∀ {A : Nat → Nat} {W : World} (hS : SortW w0 g n A W) (a m b : Nat) (x y z : Int) (hx : x = a) (hy : y = m) (hz : z = b) (h1 : a < m) (h2 : m < b) (h3 : b ≤ n), Calls Try.prog 69 #[.iface 79 (rkV g n B), .int .i64 x, .int .i64 y, .int .i64 z] W fun e w' => e = .returned (.tuple #[]) ∧ SortW w0 g n (rot A a m b) w' ∧ Sw a b A (rot A a m b) := fun hS a m b x y z hx hy hz h1 h2 h3 => rotate_at hlt hS a m b x y z hx hy hz h1 h2 h3
  have hF := finds_swap g n B
  have hG := finds_less g n B
  generalize rkV g n B = rv at HC HL HT hF hG ih ⊢
  have HC := Aside0.mk @HC
  have HL := Aside0.mk @HL
  have HT := Aside0.mk @HT
  have HF := Aside0.mk hF
  have HG := Aside0.mk hG
  clear hF hG hR
  have HS := Aside0.mk hS
  have HA := Aside0.mk hA
  have HP := Aside0.mk hP
  clear hS hA hP
  have IH := Aside0.mk ih
  clear ih
  have d1 : ((m : Int) - (a : Int) == 1) = false := by simp; omega
  have d0 : ((b : Int) - (m : Int) == 1) = false := by simp; omega
  have hm1 : 2 * mid ≤ a + b := by omega
  have hm2 : a + b ≤ 2 * mid + 1 := by omega
  have hmI : ((a : Int) + (b : Int)) / 2 = (mid : Int) := by omega
  clear hmid
  obtain ⟨lo, hlo⟩ : ∃ lo, lo = a := ⟨_, rfl⟩
  obtain ⟨hi, hhi⟩ : ∃ hi, hi = m := ⟨_, rfl⟩
  have hlohi : lo ≤ hi := by omega
  have hal : a ≤ lo := by omega
  have hloI : (a : Int) = (lo : Int) := by omega
  have hhiI : (m : Int) = (hi : Int) := by omega
  have LO := Aside0.mk hloI
  have HIa := Aside0.mk hhiI
  clear hloI hhiI
  have d2 : decide ((mid : Int) < (m : Int)) = false := decide_eq_false (by omega)
  go_enter Try.func63, Try.ntmps63
  go_wp2_with fail
  go_loopw [18, 19] (fun u v wr => ∃ (s r : Nat), u = .int .i64 s ∧ v = .int .i64 r ∧ lo ≤ s ∧ s ≤ r ∧ r ≤ hi ∧ Aside0 (SortW w0 g n A wr) ∧ Aside0 (s = lo ∨ ¬ R (A (s - 1)) < R (A (mid + m - s))) ∧ Aside0 (r = hi ∨ R (A r) < R (A (mid + m - 1 - r)))) (fun u v _ => (intOf v).toNat - (intOf u).toNat)
  case atStart => exact ⟨lo, hi, by go_num, by go_num, Nat.le_refl _, by omega, Nat.le_refl _, HS, ⟨.inl rfl⟩, ⟨.inl rfl⟩⟩
  case round =>
    obtain ⟨s, r, rfl, rfl, hs, hsr, hr, HS1, HI, HJ⟩ := hrel
    by_cases c1 : s < r
    · have d3 : decide ((s : Int) < (r : Int)) = true := decide_eq_true (by omega)
      obtain ⟨c, hc⟩ : ∃ c, (s + r) / 2 = c := ⟨_, rfl⟩
      have hc1 : s ≤ c := by omega
      have hc2 : c < r := by omega
      have hcI : ((s : Int) + (r : Int)) / 2 = (c : Int) := by omega
      obtain ⟨e, he⟩ : ∃ e, mid + m - 1 - c = e := ⟨_, rfl⟩
      have heb : e < b := by omega
      have b1 : A e < n := HA.out e (by omega)
      have b2 : A c < n := HA.out c (by omega)
      have heI : (mid : Int) + (m : Int) - 1 - (c : Int) = (e : Int) := by omega
      have HE := Aside0.mk he
      clear hc he
      by_cases c3 : R (A c) < R (A e)
      · have HB := Aside0.mk (show decide (R (A c) < R (A e)) = true from decide_eq_true c3)
        have C3 := Aside0.mk c3
        clear c3
        go_wp2_with (first | ((with_reducible refine gate_dst (N := 125) rfl ?_); refine goesI_ (some 125) rfl rfl Try.func91 (by kernel_rfl) rfl #[.int .i64 (e : Int), .int .i64 (c : Int)] rfl rfl (by (try simp only [List.map_toArray, List.map_cons, List.map_nil]); first | done | rfl) HG.out ?_; refine (HL.out HS1.out e c _ _ true rfl rfl (by omega) (by omega) b1 b2 HB.out).mono ?_; rintro e w' ⟨rfl, hS3⟩; refine ⟨_, rfl, ?_⟩))
        go_roundw
        case rel => exact ⟨s, c, rfl, by go_num, hs, by omega, by omega, ⟨hS3⟩, HI, ⟨.inr (by rw [HE.out]; exact C3.out)⟩⟩
        case measure => simp [intOf]; omega
      · have HB := Aside0.mk (show decide (R (A c) < R (A e)) = false from decide_eq_false c3)
        have C3 := Aside0.mk c3
        clear c3
        go_wp2_with (first | ((with_reducible refine gate_dst (N := 125) rfl ?_); refine goesI_ (some 125) rfl rfl Try.func91 (by kernel_rfl) rfl #[.int .i64 (e : Int), .int .i64 (c : Int)] rfl rfl (by (try simp only [List.map_toArray, List.map_cons, List.map_nil]); first | done | rfl) HG.out ?_; refine (HL.out HS1.out e c _ _ false rfl rfl (by omega) (by omega) b1 b2 HB.out).mono ?_; rintro e w' ⟨rfl, hS3⟩; refine ⟨_, rfl, ?_⟩))
        go_roundw
        case rel => exact ⟨c + 1, r, by go_num, rfl, by omega, by omega, hr, ⟨hS3⟩, ⟨.inr (by rw [show c + 1 - 1 = c by omega, show mid + m - (c + 1) = mid + m - 1 - c by omega, HE.out]; exact C3.out)⟩, HJ⟩
        case measure => simp [intOf]; omega
    · have d3 : decide ((s : Int) < (r : Int)) = false := decide_eq_false (by omega)
      obtain rfl : s = r := by omega
      obtain ⟨en, hen⟩ : ∃ en, mid + m - s = en := ⟨_, rfl⟩
      have henI : (mid : Int) + (m : Int) - (s : Int) = (en : Int) := by omega
      have HCut : Aside0 (Cut3 R A a m b mid s) := ⟨⟨by omega, by omega, by omega, by omega, by omega, by
        rcases HI.out with e | e
        · omega
        · exact .inr (.inr e), by
        rcases HJ.out with e | e
        · omega
        · exact .inr (.inr (by rw [show mid + m - s - 1 = mid + m - 1 - s by omega]; exact e))⟩⟩
      have cs := HCut.out.sm
      have csm := HCut.out.smid
      have ca := HCut.out.sa
      have ce := HCut.out.eb
      have cme := HCut.out.me
      rw [hen] at ce cme
      have HEn := Aside0.mk hen
      clear hen
      go_upto_region 39 with fail
      go_cut [140] (fun v wc => v = .bool (decide (s < m ∧ m < en)) ∧ Aside0 (SortW w0 g n A wc))
      case first =>
        by_cases t1 : s < m
        · have t1' : decide ((s : Int) < (m : Int)) = true := decide_eq_true (by omega)
          by_cases t2 : m < en
          · have t2' : decide ((m : Int) < (en : Int)) = true := decide_eq_true (by omega)
            have T := Aside0.mk (show decide (s < m ∧ m < en) = true from decide_eq_true ⟨t1, t2⟩)
            go_wp2
            go_meet
            case rel => exact ⟨congrArg Value.bool T.out.symm, HS1⟩
          · have t2' : decide ((m : Int) < (en : Int)) = false := decide_eq_false (by omega)
            have T := Aside0.mk (show decide (s < m ∧ m < en) = false from decide_eq_false (fun h => t2 h.2))
            go_wp2
            go_meet
            case rel => exact ⟨congrArg Value.bool T.out.symm, HS1⟩
        · have t1' : decide ((s : Int) < (m : Int)) = false := decide_eq_false (by omega)
          have T := Aside0.mk (show decide (s < m ∧ m < en) = false from decide_eq_false (fun h => t1 h.1))
          go_wp2
          go_meet
          case rel => exact ⟨congrArg Value.bool T.out.symm, HS1⟩
      case rest =>
        obtain ⟨rfl, HS2⟩ := hcut
        go_upto_if 140 with fail
        go_cut [22] (fun v wc => v = .int .i64 en ∧ Aside0 (SortW w0 g n (rot A s m en) wc) ∧ Aside0 (Sw a b A (rot A s m en)))
        case first =>
          by_cases T : s < m ∧ m < en
          · have td : decide (s < m ∧ m < en) = true := decide_eq_true T
            go_wp2_with (first | (go_at_call 69; refine (HT.out HS2.out s m en _ _ _ rfl rfl rfl T.1 T.2 (by omega)).mono ?_; rintro e w' ⟨rfl, hS3, hW3⟩))
            go_meet
            case rel => exact ⟨rfl, ⟨hS3⟩, ⟨hW3.mono ca ce⟩⟩
          · have td : decide (s < m ∧ m < en) = false := decide_eq_false T
            have e0 : rot A s m en = A := by
              by_cases q : s = m
              · rw [q]; exact rot_triv1 A m en cme
              · rw [show en = m by omega]; exact rot_triv2 A s m cs
            have E0 := Aside0.mk e0
            clear e0
            go_wp2
            go_meet
            case rel => exact ⟨rfl, ⟨by rw [E0.out]; exact HS2.out⟩, ⟨by rw [E0.out]; exact .refl _⟩⟩
        case rest =>
          obtain ⟨rfl, HS3, HW3⟩ := hcut
          have hmb : mid < b := by omega
          have P1 := cut_pre1 HP.out HCut.out hmb
          have P2 := cut_pre2 HP.out HCut.out hmb
          have PX := cut_cross HP.out HCut.out hmb
          rw [HEn.out] at P1 P2 PX
          have HA3 : Aside0 (∀ k, k < n → rot A s m en k < n) := ⟨HW3.out.all (n := n) (Q := fun v => v < n) h3 HA.out⟩
          obtain ⟨A3, hA3⟩ : ∃ A3, rot A s m en = A3 := ⟨_, rfl⟩
          rw [hA3] at P1 P2 PX HA3 HS3 HW3
          clear hA3
          have HP1 := Aside0.mk P1
          have HP2 := Aside0.mk P2
          have HPX := Aside0.mk PX
          clear P1 P2 PX
          go_upto_region 41 with fail
          go_cut [153] (fun v wc => v = .bool (decide (a < s ∧ s < mid)) ∧ Aside0 (SortW w0 g n A3 wc))
          case first =>
            by_cases t1 : a < s
            · have t1' : decide ((a : Int) < (s : Int)) = true := decide_eq_true (by omega)
              by_cases t2 : s < mid
              · have t2' : decide ((s : Int) < (mid : Int)) = true := decide_eq_true (by omega)
                have T := Aside0.mk (show decide (a < s ∧ s < mid) = true from decide_eq_true ⟨t1, t2⟩)
                go_wp2
                go_meet
                case rel => exact ⟨congrArg Value.bool T.out.symm, HS3⟩
              · have t2' : decide ((s : Int) < (mid : Int)) = false := decide_eq_false (by omega)
                have T := Aside0.mk (show decide (a < s ∧ s < mid) = false from decide_eq_false (fun h => t2 h.2))
                go_wp2
                go_meet
                case rel => exact ⟨congrArg Value.bool T.out.symm, HS3⟩
            · have t1' : decide ((a : Int) < (s : Int)) = false := decide_eq_false (by omega)
              have T := Aside0.mk (show decide (a < s ∧ s < mid) = false from decide_eq_false (fun h => t1 h.1))
              go_wp2
              go_meet
              case rel => exact ⟨congrArg Value.bool T.out.symm, HS3⟩
          case rest =>
            obtain ⟨rfl, HS4⟩ := hcut
            go_upto_if 153 with fail
            go_cut [22] (fun v wc => v = .int .i64 en ∧ ∃ A4, Aside0 (SortW w0 g n A4 wc) ∧ Aside0 (Sw a mid A3 A4) ∧ Aside0 (Sorted R A4 a mid))
            case first =>
              by_cases T : a < s ∧ s < mid
              · have td : decide (a < s ∧ s < mid) = true := decide_eq_true T
                go_wp2_with (first | (go_at_call 63; refine (IH.out A3 _ a s mid _ _ _ rfl rfl rfl HS4.out HA3.out HP1.out T.1 T.2 (by omega) (by omega)).mono ?_; rintro e w' ⟨rfl, A4, hS5, hW5, hO5⟩))
                go_meet
                case rel => exact ⟨rfl, A4, ⟨hS5⟩, ⟨hW5⟩, ⟨hO5⟩⟩
              · have td : decide (a < s ∧ s < mid) = false := decide_eq_false T
                have hO : Aside0 (Sorted R A3 a mid) := ⟨by
                  by_cases q : s = a
                  · rw [← q]; exact HP1.out.s2
                  · rw [show mid = s by omega]; exact HP1.out.s1⟩
                go_wp2
                go_meet
                case rel => exact ⟨rfl, A3, HS4, ⟨.refl _⟩, hO⟩
            case rest =>
              obtain ⟨rfl, A4, HS5, HW5, HO5⟩ := hcut
              have HA4 : Aside0 (∀ k, k < n → A4 k < n) := ⟨HW5.out.all (n := n) (Q := fun v => v < n) (by omega) HA3.out⟩
              have HP4 : Aside0 (Pre R A4 mid en b) := ⟨by
                have o : ∀ k, mid ≤ k → A4 k = A3 k := fun k hk => HW5.out.out k (.inr hk)
                refine ⟨fun p q q1 q2 q3 => ?_, fun p q q1 q2 q3 => ?_, fun p q q1 q2 q3 q4 => ?_⟩
                · rw [o p q1, o q (by omega)]; exact HP2.out.s1 p q q1 q2 q3
                · rw [o p (by omega), o q (by omega)]; exact HP2.out.s2 p q q1 q2 q3
                · rw [o p q1, o q (by omega)]; exact HP2.out.x p q q1 q2 q3 q4⟩
              have HPX4 : Aside0 (∀ p q, a ≤ p → p < mid → mid ≤ q → q < b → ltR R (A4 p) (A4 q)) := ⟨fun p q q1 q2 q3 q4 => by
                rw [HW5.out.out q (.inr q3)]
                exact HW5.out.img (Q := fun v => ltR R v (A3 q)) (fun k r1 r2 => HPX.out k q r1 r2 q3 q4) p q1 q2⟩
              have HW4 : Aside0 (Sw a b A A4) := ⟨HW3.out.trans (HW5.out.mono (Nat.le_refl _) (by omega))⟩
              go_upto_region 43 with fail
              go_cut [166] (fun v wc => v = .bool (decide (mid < en ∧ en < b)) ∧ Aside0 (SortW w0 g n A4 wc))
              case first =>
                by_cases t1 : mid < en
                · have t1' : decide ((mid : Int) < (en : Int)) = true := decide_eq_true (by omega)
                  by_cases t2 : en < b
                  · have t2' : decide ((en : Int) < (b : Int)) = true := decide_eq_true (by omega)
                    have T := Aside0.mk (show decide (mid < en ∧ en < b) = true from decide_eq_true ⟨t1, t2⟩)
                    go_wp2
                    go_meet
                    case rel => exact ⟨congrArg Value.bool T.out.symm, HS5⟩
                  · have t2' : decide ((en : Int) < (b : Int)) = false := decide_eq_false (by omega)
                    have T := Aside0.mk (show decide (mid < en ∧ en < b) = false from decide_eq_false (fun h => t2 h.2))
                    go_wp2
                    go_meet
                    case rel => exact ⟨congrArg Value.bool T.out.symm, HS5⟩
                · have t1' : decide ((mid : Int) < (en : Int)) = false := decide_eq_false (by omega)
                  have T := Aside0.mk (show decide (mid < en ∧ en < b) = false from decide_eq_false (fun h => t1 h.1))
                  go_wp2
                  go_meet
                  case rel => exact ⟨congrArg Value.bool T.out.symm, HS5⟩
              case rest =>
                obtain ⟨rfl, HS6⟩ := hcut
                by_cases T : mid < en ∧ en < b
                · have td : decide (mid < en ∧ en < b) = true := decide_eq_true T
                  go_wp2_with (first | (go_at_call 63; refine (IH.out A4 _ mid en b _ _ _ rfl rfl rfl HS6.out HA4.out HP4.out T.1 T.2 h3 (by omega)).mono ?_; rintro e w' ⟨rfl, A5, hS7, hW7, hO7⟩))
                  go_end0
                  refine ⟨rfl, A5, hS7, HW4.out.trans (hW7.mono (by omega) (Nat.le_refl _)), sorted_join (c := mid) ?_ hO7 ?_⟩
                  · intro p q q1 q2 q3
                    rw [hW7.out p (.inl (by omega)), hW7.out q (.inl q3)]
                    exact HO5.out p q q1 q2 q3
                  · intro p q q1 q2 q3 q4
                    rw [hW7.out p (.inl q2)]
                    exact hW7.img (Q := fun v => ltR R (A4 p) v) (fun k r1 r2 => HPX4.out p k q1 q2 r1 r2) q q3 q4
                · have td : decide (mid < en ∧ en < b) = false := decide_eq_false T
                  have hO : Aside0 (Sorted R A4 mid b) := ⟨by
                    by_cases q : en = b
                    · rw [← q]; exact HP4.out.s1
                    · rw [show mid = en by omega]; exact HP4.out.s2⟩
                  go_wp2
                  go_end0
                  exact ⟨rfl, A4, HS6.out, HW4.out, sorted_join HO5.out hO.out HPX4.out⟩
theorem symMerge_at {w0 : World} {g n B h : Nat} {R : Nat → Int} (hR : RestW w0 g n B h R) (N : Nat) : ∀ (A : Nat → Nat) (W : World) (a m b : Nat) (x y z : Int), x = a → y = m → z = b → SortW w0 g n A W → (∀ k, k < n → A k < n) → Pre R A a m b → a < m → m < b → b ≤ n → b - a ≤ N →
    Calls Try.prog 63 #[.iface 79 (rkV g n B), .int .i64 x, .int .i64 y, .int .i64 z] W fun e w' => e = .returned (.tuple #[]) ∧ ∃ A', SortW w0 g n A' w' ∧ Sw a b A A' ∧ Sorted R A' a b := by
  induction N with
  | zero => intro A W a m b x y z _ _ _ _ _ _ h1 h2 _ h4; omega
  | succ N ih =>
    intro A W a m b x y z hx hy hz hS hA hP h1 h2 h3 h4
    subst hx hy hz
    by_cases k1 : m = a + 1
    · exact symMerge_c1 hR A W a m b hS hA hP h1 h2 h3 k1
    · by_cases k2 : b = m + 1
      · exact symMerge_c2 hR A W a m b hS hA hP h1 h2 h3 k1 k2
      · by_cases k3 : (a + b) / 2 < m
        · exact symMerge_c3a hR N ih A W a m b hS hA hP h1 h2 h3 h4 k1 k2 _ rfl k3
        · exact symMerge_c3b hR N ih A W a m b hS hA hP h1 h2 h3 h4 k1 k2 _ rfl k3
def Blk (R : Nat → Int) (A : Nat → Nat) (l r : Nat) : Prop := Sorted R A l r ∧ ∀ k, l ≤ k → k < r → l ≤ A k ∧ A k < r
theorem Blk.empty {R : Nat → Int} {A : Nat → Nat} {l r : Nat} (h : r ≤ l) : Blk R A l r := ⟨fun p q h1 h2 h3 => by omega, fun k h1 h2 => by omega⟩
theorem Blk.congr {R : Nat → Int} {A A' : Nat → Nat} {l r : Nat} (h : Blk R A l r) (e : ∀ k, l ≤ k → k < r → A' k = A k) : Blk R A' l r :=
  ⟨fun p q h1 h2 h3 => by rw [e p h1 (by omega), e q (by omega) h3]; exact h.1 p q h1 h2 h3, fun k h1 h2 => by rw [e k h1 h2]; exact h.2 k h1 h2⟩
theorem Blk.pre {R : Nat → Int} {A : Nat → Nat} {a m b : Nat} (h1 : Blk R A a m) (h2 : Blk R A m b) : Pre R A a m b :=
  ⟨h1.1, h2.1, fun p q p1 p2 q1 q2 => by have := h1.2 p p1 p2; have := h2.2 q q1 q2; omega⟩
theorem Blk.join {R : Nat → Int} {A A' : Nat → Nat} {a m b : Nat} (h1 : Blk R A a m) (h2 : Blk R A m b) (ham : a ≤ m) (hmb : m ≤ b) (hw : Sw a b A A') (hs : Sorted R A' a b) : Blk R A' a b :=
  ⟨hs, hw.img (Q := fun v => a ≤ v ∧ v < b) (fun k k1 k2 => by
    by_cases c : k < m
    · have := h1.2 k k1 c; omega
    · have := h2.2 k (by omega) k2; omega)⟩
structure Mix (R : Nat → Int) (A : Nat → Nat) (s n t : Nat) : Prop where
  low : ∀ u, u < t → Blk R A (min (u * (2 * s)) n) (min ((u + 1) * (2 * s)) n)
  high : ∀ u, 2 * t ≤ u → Blk R A (min (u * s) n) (min ((u + 1) * s) n)
def AllBlk (R : Nat → Int) (A : Nat → Nat) (s n : Nat) : Prop := ∀ u, Blk R A (min (u * s) n) (min ((u + 1) * s) n)
theorem mul_facts (s t : Nat) : 2 * t * s = t * (2 * s) ∧ (2 * t + 1) * s = t * (2 * s) + s ∧ (2 * t + 1 + 1) * s = t * (2 * s) + 2 * s ∧ (t + 1) * (2 * s) = t * (2 * s) + 2 * s := by
  have e : 2 * t * s = t * (2 * s) := by rw [Nat.mul_comm 2 t, Nat.mul_assoc]
  refine ⟨e, ?_, ?_, ?_⟩
  · rw [Nat.succ_mul, e]
  · rw [Nat.succ_mul, Nat.succ_mul, e]; omega
  · rw [Nat.succ_mul]
theorem Mix.start {R : Nat → Int} {A : Nat → Nat} {s n : Nat} (h : AllBlk R A s n) : Mix R A s n 0 := ⟨fun u hu => absurd hu (by omega), fun u _ => h u⟩
theorem Mix.blocks {R : Nat → Int} {A : Nat → Nat} {s n t : Nat} (h : Mix R A s n t) : Blk R A (min (t * (2 * s)) n) (min (t * (2 * s) + s) n) ∧ Blk R A (min (t * (2 * s) + s) n) (min (t * (2 * s) + 2 * s) n) := by
  obtain ⟨e1, e2, e3, e4⟩ := mul_facts s t
  have h1 := h.high (2 * t) (Nat.le_refl _)
  have h2 := h.high (2 * t + 1) (by omega)
  rw [e1, e2] at h1
  rw [e2, e3] at h2
  exact ⟨h1, h2⟩
theorem Mix.step {R : Nat → Int} {A A' : Nat → Nat} {s n t : Nat} (h : Mix R A s n t) (hw : Sw (min (t * (2 * s)) n) (min (t * (2 * s) + 2 * s) n) A A') (hs : Blk R A' (min (t * (2 * s)) n) (min (t * (2 * s) + 2 * s) n)) : Mix R A' s n (t + 1) := by
  obtain ⟨e1, e2, e3, e4⟩ := mul_facts s t
  refine ⟨fun u hu => ?_, fun u hu => ?_⟩
  · by_cases c : u = t
    · subst c; rw [e4]; exact hs
    · have hle : (u + 1) * (2 * s) ≤ t * (2 * s) := Nat.mul_le_mul_right _ (by omega)
      exact (h.low u (by omega)).congr fun k k1 k2 => hw.out k (.inl (by omega))
  · have hle : (2 * t + 1 + 1) * s ≤ u * s := Nat.mul_le_mul_right _ (by omega)
    rw [e3] at hle
    exact (h.high u (by omega)).congr fun k k1 k2 => hw.out k (.inr (by omega))
theorem Mix.all {R : Nat → Int} {A : Nat → Nat} {s n t : Nat} (h : Mix R A s n t) (hn : n ≤ t * (2 * s)) : AllBlk R A (2 * s) n := by
  intro u
  by_cases c : u < t
  · exact h.low u c
  · have hle : t * (2 * s) ≤ u * (2 * s) := Nat.mul_le_mul_right _ (by omega)
    exact Blk.empty (by omega)
theorem AllBlk.done {R : Nat → Int} {A : Nat → Nat} {s n : Nat} (h : AllBlk R A s n) (hs : n ≤ s) : Sorted R A 0 n := by
  have := (h 0).1
  rw [Nat.zero_mul, Nat.zero_add, Nat.one_mul, show min 0 n = 0 by omega, show min s n = n by omega] at this
  exact this
set_option maxHeartbeats 4000000 in
set_option maxRecDepth 100000 in
theorem stable_calls {w0 : World} {g n B h : Nat} {R : Nat → Int} {A : Nat → Nat} {W : World} (hR : RestW w0 g n B h R) (hS : SortW w0 g n A W) (hid : ∀ k, k < n → A k = k) (hn : n < 1000000) :
    Calls Try.prog 54 #[.iface 79 (rkV g n B), .int .i64 n] W fun e w' => e = .returned (.tuple #[]) ∧ ∃ A', SortW w0 g n A' w' ∧ Sw 0 n A A' ∧ Sorted R A' 0 n := by
  have HI0 : ∀ {A : Nat → Nat} {W : World} (hS : SortW w0 g n A W) (hA : ∀ k, k < n → A k < n) (a b : Nat) (x y : Int) (hx : x = a) (hy : y = b) (h1 : a ≤ b) (h2 : b ≤ n) (hinc : ∀ p q, a ≤ p → p < q → q < b → A p < A q), Calls Try.prog 62 #[.iface 79 (rkV g n B), .int .i64 x, .int .i64 y] W fun e w' => e = .returned (.tuple #[]) ∧ ∃ A', SortW w0 g n A' w' ∧ Sw a b A A' ∧ Sorted R A' a b := fun hS hA a b x y hx hy h1 h2 hinc => insertion_at hR hS hA a b x y hx hy h1 h2 hinc
  have HM0 : ∀ (A : Nat → Nat) (W : World) (a m b : Nat) (x y z : Int), x = a → y = m → z = b → SortW w0 g n A W → (∀ k, k < n → A k < n) → Pre R A a m b → a < m → m < b → b ≤ n → Calls Try.prog 63 #[.iface 79 (rkV g n B), .int .i64 x, .int .i64 y, .int .i64 z] W fun e w' => e = .returned (.tuple #[]) ∧ ∃ A', SortW w0 g n A' w' ∧ Sw a b A A' ∧ Sorted R A' a b := fun A W a m b x y z hx hy hz hS hA hP h1 h2 h3 => symMerge_at hR (b - a) A W a m b x y z hx hy hz hS hA hP h1 h2 h3 (Nat.le_refl _)
  generalize rkV g n B = rv at HI0 HM0
  have HI := Aside0.mk @HI0
  have HM := Aside0.mk HM0
  have HS := Aside0.mk hS
  have HID := Aside0.mk hid
  clear hS hR hid HI0 HM0
  go_enter Try.func54, Try.ntmps54
  go_wp2
  go_loopw [5, 6] (fun u v wr => ∃ (t : Nat) (A1 : Nat → Nat), u = .int .i64 ((t * 20 : Nat) : Int) ∧ v = .int .i64 ((t * 20 + 20 : Nat) : Int) ∧ t * 20 ≤ n ∧ Aside0 (SortW w0 g n A1 wr) ∧ Aside0 (Sw 0 n A A1) ∧ Aside0 (∀ u, u < t → Blk R A1 (u * 20) (u * 20 + 20)) ∧ Aside0 (∀ k, t * 20 ≤ k → k < n → A1 k = k)) (fun u _ _ => n - (intOf u).toNat)
  case atStart => exact ⟨0, A, by go_num, by go_num, by omega, HS, ⟨.refl _⟩, ⟨fun u hu => absurd hu (by omega)⟩, ⟨fun k _ hk => HID.out k hk⟩⟩
  case round =>
    obtain ⟨t, A1, rfl, rfl, ht, HS1, HW, HB, HK⟩ := hrel
    have hA1 : Aside0 (∀ k, k < n → A1 k < n) := ⟨HW.out.all (n := n) (Q := fun v => v < n) (Nat.le_refl _) (fun k hk => by rw [HID.out k hk]; exact hk)⟩
    by_cases c1 : t * 20 + 20 ≤ n
    · have d1 : decide (((t * 20 + 20 : Nat) : Int) ≤ (n : Int)) = true := decide_eq_true (by omega)
      have d1' : decide (((t : Int) * 20 + 20) ≤ (n : Int)) = true := decide_eq_true (by omega)
      go_wp2_with (first | (go_at_call 62; refine (HI.out HS1.out hA1.out (t * 20) (t * 20 + 20) _ _ (by omega) (by omega) (by omega) c1 (fun p q p1 p2 p3 => by rw [HK.out p p1 (by omega), HK.out q (by omega) (by omega)]; exact p2)).mono ?_; rintro e w' ⟨rfl, A2, hS2, hW2, hO2⟩))
      go_roundw
      case rel =>
        refine ⟨t + 1, A2, by go_num, by go_num, by omega, ⟨hS2⟩, ⟨HW.out.trans (hW2.mono (by omega) c1)⟩, ⟨fun u hu => ?_⟩, ⟨fun k k1 k2 => ?_⟩⟩
        · by_cases c : u = t
          · subst c
            exact ⟨hO2, hW2.img (Q := fun v => u * 20 ≤ v ∧ v < u * 20 + 20) (fun k k1 k2 => by rw [HK.out k k1 (by omega)]; exact ⟨k1, k2⟩)⟩
          · exact (HB.out u (by omega)).congr fun k k1 k2 => hW2.out k (.inl (by omega))
        · rw [hW2.out k (.inr (by omega))]; exact HK.out k (by omega) k2
      case measure => simp [intOf]; omega
    · have d1 : decide (((t * 20 + 20 : Nat) : Int) ≤ (n : Int)) = false := decide_eq_false (by omega)
      have d1' : decide (((t : Int) * 20 + 20) ≤ (n : Int)) = false := decide_eq_false (by omega)
      go_wp2_with (first | (go_at_call 62; refine (HI.out HS1.out hA1.out (t * 20) n _ _ (by omega) rfl ht (Nat.le_refl _) (fun p q p1 p2 p3 => by rw [HK.out p p1 (by omega), HK.out q (by omega) (by omega)]; exact p2)).mono ?_; rintro e w' ⟨rfl, A2, hS2, hW2, hO2⟩))
      have HAll : Aside0 (AllBlk R A2 20 n) := ⟨fun u => by
        by_cases c : u < t
        · have e1 : min (u * 20) n = u * 20 := by omega
          have e2 : min ((u + 1) * 20) n = u * 20 + 20 := by omega
          rw [e1, e2]
          exact (HB.out u c).congr fun k k1 k2 => hW2.out k (.inl (by omega))
        · by_cases c2 : u = t
          · subst c2
            have e1 : min (u * 20) n = u * 20 := by omega
            have e2 : min ((u + 1) * 20) n = n := by omega
            rw [e1, e2]
            exact ⟨hO2, hW2.img (Q := fun v => u * 20 ≤ v ∧ v < n) (fun k k1 k2 => by rw [HK.out k k1 k2]; exact ⟨k1, k2⟩)⟩
          · exact Blk.empty (by omega)⟩
      have HS2 := Aside0.mk hS2
      have HW2 := Aside0.mk (HW.out.trans (hW2.mono (by omega) (Nat.le_refl _)))
      clear hS2 hW2 hO2
      go_loopw [4] (fun v wr => ∃ (s : Nat) (A3 : Nat → Nat), v = .int .i64 s ∧ 20 ≤ s ∧ s ≤ 2000040 ∧ Aside0 (SortW w0 g n A3 wr) ∧ Aside0 (Sw 0 n A A3) ∧ Aside0 (AllBlk R A3 s n)) (fun v _ => n - (intOf v).toNat)
      case atStart => exact ⟨20, A2, rfl, Nat.le_refl _, by omega, HS2, HW2, HAll⟩
      case round =>
        obtain ⟨s, A3, rfl, hs, hs2, HS3, HW3, HAll3⟩ := hrel
        by_cases c2 : s < n
        · have d2 : decide ((s : Int) < (n : Int)) = true := decide_eq_true (by omega)
          go_wp2_with fail
          go_loopw [5, 6] (fun u v wr => ∃ (t l : Nat) (A4 : Nat → Nat), u = .int .i64 (l : Int) ∧ v = .int .i64 ((l + 2 * s : Nat) : Int) ∧ l ≤ n ∧ Aside0 (t * (2 * s) = l) ∧ Aside0 (SortW w0 g n A4 wr) ∧ Aside0 (Sw 0 n A A4) ∧ Aside0 (Mix R A4 s n t)) (fun u _ _ => n - (intOf u).toNat)
          case atStart => exact ⟨0, 0, A3, by go_num, by go_num, by omega, ⟨by omega⟩, HS3, HW3, ⟨.start HAll3.out⟩⟩
          case round =>
            obtain ⟨t, l, A4, rfl, rfl, hl, HL, HS4, HW4, HM4⟩ := hrel
            have hA4 : Aside0 (∀ k, k < n → A4 k < n) := ⟨HW4.out.all (n := n) (Q := fun v => v < n) (Nat.le_refl _) (fun k hk => by rw [HID.out k hk]; exact hk)⟩
            obtain ⟨B1, B2⟩ := HM4.out.blocks
            rw [HL.out] at B1 B2
            have HB1 := Aside0.mk B1
            have HB2 := Aside0.mk B2
            clear B1 B2
            have emul := (mul_facts s t).2.2.2
            rw [HL.out] at emul
            have HE := Aside0.mk emul
            clear emul
            by_cases c3 : l + 2 * s ≤ n
            · have d3 : decide (((l + 2 * s : Nat) : Int) ≤ (n : Int)) = true := decide_eq_true (by omega)
              have d3' : decide (((l : Int) + 2 * (s : Int)) ≤ (n : Int)) = true := decide_eq_true (by omega)
              have P := HB1.out.pre HB2.out
              rw [show min l n = l by omega, show min (l + s) n = l + s by omega, show min (l + 2 * s) n = l + 2 * s by omega] at P
              have HP := Aside0.mk P
              clear P
              go_wp2_with (first | (go_at_call 63; refine (HM.out A4 _ l (l + s) (l + 2 * s) _ _ _ rfl (by omega) (by omega) HS4.out hA4.out HP.out (by omega) (by omega) c3).mono ?_; rintro e w' ⟨rfl, A5, hS5, hW5, hO5⟩))
              have HN : Aside0 (Mix R A5 s n (t + 1)) := ⟨HM4.out.step (by rw [HL.out, show min l n = l by omega, show min (l + 2 * s) n = l + 2 * s by omega]; exact hW5) (by
                rw [HL.out, show min l n = l by omega, show min (l + 2 * s) n = l + 2 * s by omega]
                have b1 := HB1.out
                have b2 := HB2.out
                rw [show min l n = l by omega, show min (l + s) n = l + s by omega] at b1
                rw [show min (l + s) n = l + s by omega, show min (l + 2 * s) n = l + 2 * s by omega] at b2
                exact b1.join b2 (by omega) (by omega) hW5 hO5)⟩
              go_roundw
              case rel => exact ⟨t + 1, l + 2 * s, A5, by go_num, by go_num, c3, HE, ⟨hS5⟩, ⟨HW4.out.trans (hW5.mono (by omega) c3)⟩, HN⟩
              case measure => simp [intOf]; omega
            · have d3 : decide (((l + 2 * s : Nat) : Int) ≤ (n : Int)) = false := decide_eq_false (by omega)
              have d3' : decide (((l : Int) + 2 * (s : Int)) ≤ (n : Int)) = false := decide_eq_false (by omega)
              by_cases c4 : l + s < n
              · have d4 : decide ((l : Int) + (s : Int) < (n : Int)) = true := decide_eq_true (by omega)
                have P := HB1.out.pre HB2.out
                rw [show min l n = l by omega, show min (l + s) n = l + s by omega, show min (l + 2 * s) n = n by omega] at P
                have HP := Aside0.mk P
                clear P
                go_wp2_with (first | (go_at_call 63; refine (HM.out A4 _ l (l + s) n _ _ _ rfl (by omega) rfl HS4.out hA4.out HP.out (by omega) c4 (Nat.le_refl _)).mono ?_; rintro e w' ⟨rfl, A5, hS5, hW5, hO5⟩))
                have HN : Aside0 (AllBlk R A5 (2 * s) n) := ⟨(HM4.out.step (A' := A5) (by rw [HL.out, show min l n = l by omega, show min (l + 2 * s) n = n by omega]; exact hW5) (by
                  rw [HL.out, show min l n = l by omega, show min (l + 2 * s) n = n by omega]
                  have b1 := HB1.out
                  have b2 := HB2.out
                  rw [show min l n = l by omega, show min (l + s) n = l + s by omega] at b1
                  rw [show min (l + s) n = l + s by omega, show min (l + 2 * s) n = n by omega] at b2
                  exact b1.join b2 (by omega) (by omega) hW5 hO5)).all (by rw [HE.out]; omega)⟩
                go_roundw
                case rel => exact ⟨2 * s, A5, by go_num, by omega, by omega, ⟨hS5⟩, ⟨HW4.out.trans (hW5.mono (by omega) (Nat.le_refl _))⟩, HN⟩
                case measure => simp [intOf]; omega
              · have d4 : decide ((l : Int) + (s : Int) < (n : Int)) = false := decide_eq_false (by omega)
                have HN : Aside0 (AllBlk R A4 (2 * s) n) := ⟨(HM4.out.step (A' := A4) (.refl _) (by
                  rw [HL.out, show min l n = l by omega, show min (l + 2 * s) n = n by omega]
                  have b1 := HB1.out
                  rw [show min l n = l by omega, show min (l + s) n = n by omega] at b1
                  exact b1)).all (by rw [HE.out]; omega)⟩
                go_wp2_with fail
                go_roundw
                case rel => exact ⟨2 * s, A4, by go_num, by omega, by omega, HS4, HW4, HN⟩
                case measure => simp [intOf]; omega
        · have d2 : decide ((s : Int) < (n : Int)) = false := decide_eq_false (by omega)
          go_wp2
          go_end0
          exact ⟨rfl, A3, HS3.out, HW3.out, HAll3.out.done (by omega)⟩
set_option maxHeartbeats 4000000 in
set_option maxRecDepth 100000 in
theorem Stable_calls {w0 : World} {g n B h : Nat} {R : Nat → Int} {A : Nat → Nat} {W : World} (hR : RestW w0 g n B h R) (hS : SortW w0 g n A W) (hid : ∀ k, k < n → A k = k) (hn : n < 1000000) :
    Calls Try.prog 43 #[.iface 79 (rkV g n B)] W fun e w' => e = .returned (.tuple #[]) ∧ ∃ A', SortW w0 g n A' w' ∧ Sw 0 n A A' ∧ Sorted R A' 0 n := by
  have HN0 : ∀ {W : World} (hS : SortW w0 g n A W), Calls Try.prog 90 #[rkV g n B] W fun e w' => e = .returned (.int .i64 n) ∧ SortW w0 g n A w' := fun hS => len_calls hS
  have HT0 : ∀ {W : World} (hS : SortW w0 g n A W), Calls Try.prog 54 #[.iface 79 (rkV g n B), .int .i64 n] W fun e w' => e = .returned (.tuple #[]) ∧ ∃ A', SortW w0 g n A' w' ∧ Sw 0 n A A' ∧ Sorted R A' 0 n := fun hS => stable_calls hR hS hid hn
  have hF := finds_len g n B
  generalize rkV g n B = rv at HN0 HT0 hF
  have HN := Aside0.mk @HN0
  have HT := Aside0.mk @HT0
  have HF := Aside0.mk hF
  have HS := Aside0.mk hS
  clear hS hR hid HN0 HT0 hF
  go_enter Try.func43, Try.ntmps43
  go_wp2_with (first
    | ((with_reducible refine gate_dst (N := 4) rfl ?_); refine goesI_ (some 4) rfl rfl Try.func90 (by kernel_rfl) rfl #[] rfl rfl (by (try simp only [List.map_toArray, List.map_cons, List.map_nil]); first | done | rfl) HF.out ?_; refine (HN.out HS.out).mono ?_; rintro e w' ⟨rfl, hS2⟩; refine ⟨_, rfl, ?_⟩)
    | (go_at_call 54; refine (HT.out hS2).mono ?_; rintro e w3 ⟨rfl, A5, hS5, hW5, hO5⟩))
  go_end0
  exact ⟨rfl, A5, hS5, hW5, hO5⟩
def sumN (f : Nat → Nat) : Nat → Nat
  | 0 => 0
  | n + 1 => sumN f n + f n
theorem sumN_congr {f f' : Nat → Nat} {n : Nat} (h : ∀ k, k < n → f' k = f k) : sumN f' n = sumN f n := by
  induction n with
  | zero => rfl
  | succ n ih => simp only [sumN]; rw [ih (fun k hk => h k (by omega)), h n (by omega)]
theorem sumN_upd {f f' : Nat → Nat} {i : Nat} (h : ∀ k, k ≠ i → f' k = f k) (n : Nat) (hi : i < n) : sumN f' n + f i = sumN f n + f' i := by
  induction n with
  | zero => omega
  | succ n ih =>
    simp only [sumN]
    by_cases c : i = n
    · subst c
      rw [sumN_congr (f := f) (f' := f') (fun k hk => h k (by omega))]
      omega
    · have := ih (by omega)
      rw [h n (fun e => c e.symm)]
      omega
theorem sumN_swp (F A : Nat → Nat) (n i j : Nat) (hi : i < n) (hj : j < n) : sumN (fun k => F (swp A i j k)) n = sumN (fun k => F (A k)) n := by
  by_cases e : i = j
  · subst e
    refine sumN_congr fun k _ => ?_
    by_cases c : k = i
    · subst c; simp only [swp_is1 A (show k = k from rfl)]
    · simp only [swp_is3 A c c]
  · have h1 := sumN_upd (f := fun k => F (A k)) (f' := fun k => if k = i then F (A j) else F (A k)) (i := i) (fun k hk => by simp only [if_neg hk]) n hi
    have h2 := sumN_upd (f := fun k => if k = i then F (A j) else F (A k)) (f' := fun k => F (swp A i j k)) (i := j) (fun k hk => by
      by_cases c : k = i
      · simp only [swp_is1 A c, if_pos c]
      · simp only [swp_is3 A c hk, if_neg c]) n hj
    simp only [if_pos, swp_is2 A (fun h => e h.symm) rfl, if_neg (fun h => e h.symm : ¬ j = i)] at h1 h2
    omega
theorem sumN_sw {a b n : Nat} {A A' : Nat → Nat} (h : Sw a b A A') (hb : b ≤ n) (F : Nat → Nat) : sumN (fun k => F (A' k)) n = sumN (fun k => F (A k)) n := by
  induction h with
  | refl => rfl
  | step i j _ hi hj ih => rw [sumN_swp F _ n i j (by omega) (by omega), ih]
def rank (R : Nat → Int) (n i : Nat) : Nat := sumN (fun k => if R i < R k ∨ R k = R i ∧ k < i then 1 else 0) n
theorem sumN_below (n p : Nat) (hp : p ≤ n) : sumN (fun k => if k < p then 1 else 0) n = p := by
  induction n with
  | zero => simp only [sumN]; omega
  | succ n ih =>
    simp only [sumN]
    by_cases c : p = n + 1
    · subst c
      rw [sumN_congr (f := fun k => if k < n then 1 else 0) (fun k hk => by rw [if_pos (by omega), if_pos hk]), if_pos (by omega)]
      have : sumN (fun k => if k < n then 1 else 0) n = n := by
        clear ih hp
        have : ∀ m, m ≤ n → sumN (fun k => if k < n then 1 else 0) m = m := by
          intro m
          induction m with
          | zero => intro _; rfl
          | succ m im => intro hm; simp only [sumN]; rw [im (by omega), if_pos (by omega)]
        exact this n (Nat.le_refl _)
      omega
    · rw [ih (by omega), if_neg (by omega)]; omega
theorem rank_at {R : Nat → Int} {n : Nat} {A A' : Nat → Nat} (hid : ∀ k, k < n → A k = k) (hw : Sw 0 n A A') (hs : Sorted R A' 0 n) (p : Nat) (hp : p < n) : rank R n (A' p) = p := by
  unfold rank
  have h1 := sumN_sw hw (Nat.le_refl n) (fun k => if R (A' p) < R k ∨ R k = R (A' p) ∧ k < A' p then 1 else 0)
  rw [sumN_congr (f := fun k => if R (A' p) < R k ∨ R k = R (A' p) ∧ k < A' p then 1 else 0) (f' := fun k => if R (A' p) < R (A k) ∨ R (A k) = R (A' p) ∧ A k < A' p then 1 else 0) (fun k hk => by simp only [hid k hk])] at h1
  rw [← h1, sumN_congr (f := fun k => if k < p then 1 else 0), sumN_below n p (by omega)]
  intro k hk
  by_cases c : k < p
  · rw [if_pos c, if_pos]
    have := hs k p (Nat.zero_le _) c hp
    unfold ltR at this; exact this
  · rw [if_neg c, if_neg]
    by_cases d : k = p
    · subst d; omega
    · have := hs p k (Nat.zero_le _) (by omega) hk
      unfold ltR at this; omega
theorem sw_onto {n : Nat} {A A' : Nat → Nat} (hid : ∀ k, k < n → A k = k) (hw : Sw 0 n A A') (i : Nat) (hi : i < n) : ∃ p, p < n ∧ A' p = i := by
  have h1 := sumN_sw hw (Nat.le_refl n) (fun v => if v = i then 1 else 0)
  have h2 : ∀ m, m ≤ n → (∀ p, p < m → A' p ≠ i) → sumN (fun k => if A' k = i then 1 else 0) m = 0 := by
    intro m
    induction m with
    | zero => intro _ _; rfl
    | succ m im => intro hm h; simp only [sumN]; rw [im (by omega) (fun p hp => h p (by omega)), if_neg (h m (by omega))]
  have h3 : ∀ m, i < m → m ≤ n → 1 ≤ sumN (fun k => if A k = i then 1 else 0) m := by
    intro m
    induction m with
    | zero => intro h _; omega
    | succ m im =>
      intro h hm
      simp only [sumN]
      by_cases c : i = m
      · rw [if_pos (by rw [hid m (by omega)]; exact c.symm)]; omega
      · have := im (by omega) (by omega); omega
  by_cases c : ∃ p, p < n ∧ A' p = i
  · exact c
  · have e1 := h2 n (Nat.le_refl _) (fun p hp e => c ⟨p, hp, e⟩)
    have e2 := h3 n hi (Nat.le_refl _)
    omega
def shW (c : Int) (l : List Int) : List Int := if c = 0 then l.map (fun _ => 1) else l
def shSum (c : Int) (l : List Int) : Int := if c = 0 then l.length else c
def shQ (total sum : Int) (ws : List Int) (i : Nat) : Int := total * ws.getD i 0 / sum
def shR (total sum : Int) (ws : List Int) (i : Nat) : Int := total * ws.getD i 0 % sum
def shLeft (total sum : Int) (ws : List Int) : Nat → Int
  | 0 => total
  | i + 1 => shLeft total sum ws i - shQ total sum ws i
def shOut (total sum : Int) (ws : List Int) : List Int := (List.range ws.length).map fun i => shQ total sum ws i + if (rank (shR total sum ws) ws.length i : Int) < shLeft total sum ws ws.length then 1 else 0
def shOk (k : Nat) (total sum : Int) (ws : List Int) (i : Nat) : Bool :=
  decide (exact_MulDiv.f k (IntKind.u64.wrap total) (IntKind.u64.wrap (ws.getD i 0)) (IntKind.u64.wrap sum) 0 = some (shQ total sum ws i, 0)) && decide (exact_MulMod.f k (IntKind.u64.wrap total) (IntKind.u64.wrap (ws.getD i 0)) (IntKind.u64.wrap sum) = some (shR total sum ws i)) && decide (0 ≤ shQ total sum ws i) && decide (shQ total sum ws i ≤ 1000000000000)
def shAll (k : Nat) (total sum : Int) (ws : List Int) : Bool := (List.range ws.length).all (shOk k total sum ws) && decide (ws.length ≤ 1000) && decide (0 ≤ total) && decide (total ≤ 1000000000000) && decide (shLeft total sum ws ws.length ≤ ws.length)
def apportion_Share.f (k : Nat) (total : Int) (l : List Int) : Option (List Int × Int) :=
  (apportion_check.f k total l).bind fun c => if c.2 = 0 ∧ 0 < l.length then (if shAll k total (shSum c.1 l) (shW c.1 l) = true then some (shOut total (shSum c.1 l) (shW c.1 l), 0) else none) else some ([], c.2)
def RowAt (W : World) (g n : Nat) (t : TypeId) (f : Nat → Value) : Prop := ∃ cur : Array Value, cur.size = n ∧ W.heap[g]? = some (.cells cur t (0, 0)) ∧ ∀ i, i < n → cur[i]? = some (f i)
theorem RowAt.cell {W : World} {g n : Nat} {t : TypeId} {f : Nat → Value} (h : RowAt W g n t f) (i : Nat) (hi : i < n) : W.cell? ⟨g, i, none⟩ = some (f i) := by
  obtain ⟨cur, hs, hb, hc⟩ := h
  exact (blk_cell hb i).trans (hc i hi)
theorem RowAt.free {W : World} {g n : Nat} {t : TypeId} {f : Nat → Value} (h : RowAt W g n t f) (i : Nat) : W.frozen? ⟨g, i, none⟩ = false := by
  obtain ⟨cur, hs, hb, hc⟩ := h
  exact blk_frozen hb i
theorem RowAt.below {W W1 : World} {g n : Nat} {t : TypeId} {f : Nat → Value} (h : RowAt W g n t f) (hb : Below W.heap.size W W1) : RowAt W1 g n t f := by
  obtain ⟨cur, hs, hc, hr⟩ := h
  exact ⟨cur, hs, blk_below hc hb, hr⟩
theorem RowAt.far {W : World} {g n : Nat} {t : TypeId} {f : Nat → Value} (h : RowAt W g n t f) {p : Addr} (hp : g ≠ p.block) (u : Value) : RowAt (W.setCell p u) g n t f := by
  obtain ⟨cur, hs, hc, hr⟩ := h
  exact ⟨cur, hs, blk_far hc hp u, hr⟩
theorem RowAt.set {W : World} {g n : Nat} {t : TypeId} {f : Nat → Value} (h : RowAt W g n t f) (i : Nat) (hi : i < n) (u : Value) : RowAt (W.setCell ⟨g, i, none⟩ u) g n t (fun k => if k = i then u else f k) := by
  obtain ⟨cur, hs, hc, hr⟩ := h
  refine ⟨_, by simp [hs], blk_set hc i u, fun k hk => ?_⟩
  by_cases e : i = k
  · subst e
    rw [Array.getElem?_setIfInBounds_self_of_lt (by omega)]; exact congrArg some (if_pos rfl).symm
  · rw [Array.getElem?_setIfInBounds_ne e, hr k hk]; exact congrArg some (if_neg (fun h => e (Eq.symm h))).symm
theorem RowAt.congr {W : World} {g n : Nat} {t : TypeId} {f f' : Nat → Value} (h : RowAt W g n t f) (e : ∀ k, k < n → f' k = f k) : RowAt W g n t f' := by
  obtain ⟨cur, hs, hc, hr⟩ := h
  exact ⟨cur, hs, hc, fun i hi => by rw [hr i hi, e i hi]⟩
theorem RowAt.drewN {W : World} {g n : Nat} {t : TypeId} {f : Nat → Value} (h : RowAt W g n t f) (m : Nat) : RowAt (W.drewN m) g n t f := h
structure LW (w0 : World) (gs gr gb go n : Nat) (S R O : Nat → Int) (W : World) : Prop where
  rs : RowAt W gs n 3 (fun i => .int .i64 (S i))
  rr : RowAt W gr n 73 (fun i => .int .u64 (R i))
  rb : RowAt W gb 1 72 (fun _ => .slice (some ⟨gr, 0, none⟩) n n)
  ro : RowAt W go n 3 (fun i => .int .i64 (O i))
  bel : Below w0.heap.size w0 W
structure LN (w0 : World) (gs gr gb go : Nat) : Prop where
  s : w0.heap.size ≤ gs
  r : w0.heap.size ≤ gr
  b : w0.heap.size ≤ gb
  o : w0.heap.size ≤ go
  sr : gs ≠ gr
  sb : gs ≠ gb
  so : gs ≠ go
  rb : gr ≠ gb
  ro : gr ≠ go
  bo : gb ≠ go
theorem LW.below {w0 W W1 : World} {gs gr gb go n : Nat} {S R O : Nat → Int} (h : LW w0 gs gr gb go n S R O W) (hb : Below W.heap.size W W1) : LW w0 gs gr gb go n S R O W1 :=
  ⟨h.rs.below hb, h.rr.below hb, h.rb.below hb, h.ro.below hb, below_step h.bel hb⟩
theorem LW.drewN {w0 W : World} {gs gr gb go n : Nat} {S R O : Nat → Int} (h : LW w0 gs gr gb go n S R O W) (m : Nat) : LW w0 gs gr gb go n S R O (W.drewN m) :=
  ⟨h.rs, h.rr, h.rb, h.ro, pw_below_drewN h.bel m⟩
def upd (f : Nat → Int) (i : Nat) (v : Int) : Nat → Int := fun k => if k = i then v else f k
theorem upd_val (q : IntKind) (f : Nat → Int) (i : Nat) (v : Int) (k : Nat) : Value.int q (upd f i v k) = if k = i then .int q v else .int q (f k) := by unfold upd; split <;> rfl
theorem LW.setS {w0 W : World} {gs gr gb go n : Nat} {S R O : Nat → Int} (N : LN w0 gs gr gb go) (h : LW w0 gs gr gb go n S R O W) (i : Nat) (hi : i < n) (v : Int) : LW w0 gs gr gb go n (upd S i v) R O (W.setCell ⟨gs, i, none⟩ (.int .i64 v)) :=
  ⟨(h.rs.set i hi _).congr (fun k _ => upd_val _ _ _ _ _), h.rr.far (p := ⟨gs, i, none⟩) N.sr.symm _, h.rb.far (p := ⟨gs, i, none⟩) N.sb.symm _, h.ro.far (p := ⟨gs, i, none⟩) N.so.symm _, below_set h.bel N.s⟩
theorem LW.setR {w0 W : World} {gs gr gb go n : Nat} {S R O : Nat → Int} (N : LN w0 gs gr gb go) (h : LW w0 gs gr gb go n S R O W) (i : Nat) (hi : i < n) (v : Int) : LW w0 gs gr gb go n S (upd R i v) O (W.setCell ⟨gr, i, none⟩ (.int .u64 v)) :=
  ⟨h.rs.far (p := ⟨gr, i, none⟩) N.sr _, (h.rr.set i hi _).congr (fun k _ => upd_val _ _ _ _ _), h.rb.far (p := ⟨gr, i, none⟩) N.rb.symm _, h.ro.far (p := ⟨gr, i, none⟩) N.ro.symm _, below_set h.bel N.r⟩
theorem LW.setO {w0 W : World} {gs gr gb go n : Nat} {S R O : Nat → Int} (N : LN w0 gs gr gb go) (h : LW w0 gs gr gb go n S R O W) (i : Nat) (hi : i < n) (v : Int) : LW w0 gs gr gb go n S R (upd O i v) (W.setCell ⟨go, i, none⟩ (.int .i64 v)) :=
  ⟨h.rs.far (p := ⟨go, i, none⟩) N.so _, h.rr.far (p := ⟨go, i, none⟩) N.ro _, h.rb.far (p := ⟨go, i, none⟩) N.bo _, (h.ro.set i hi _).congr (fun k _ => upd_val _ _ _ _ _), below_set h.bel N.o⟩
theorem make_ints (n : Nat) (hn : n ≤ 1000) (w : World) : (Instr.makeSlice 26 (.int .i64 n) (.int .i64 n)).run Try.prog w = .ok (.slice (some ⟨w.heap.size, 0, none⟩) n n) (w.alloc (.cells (madeCells (Value.int .i64 0).cells n) 3)) := by
  have h := info3
  cases hi : Try.prog.info? 3 with
  | none => rw [hi] at h; simp at h
  | some i =>
  rw [hi] at h
  simp only [Option.map_some, Option.some.injEq, Prod.mk.injEq] at h
  have := run_makeSlice w 26 3 i _ Try.underlying26 hi h.1 .i64 .i64 n n (by omega) (Int.le_refl _) (by rw [h.2.1]; simp; omega) (by rw [h.2.2]; omega) (by omega)
  rw [h.2.1] at this
  simpa using this
theorem share_info : (Try.prog.info? 73).map (fun i => (i.zero, i.size, i.bytes)) = some (some (.int .u64 0), 1, 8) := by kernel_rfl
theorem make_u64s (n : Nat) (hn : n ≤ 1000) (w : World) : (Instr.makeSlice 72 (.int .i64 n) (.int .i64 n)).run Try.prog w = .ok (.slice (some ⟨w.heap.size, 0, none⟩) n n) (w.alloc (.cells (madeCells (Value.int .u64 0).cells n) 73)) := by
  have h := share_info
  cases hi : Try.prog.info? 73 with
  | none => rw [hi] at h; simp at h
  | some i =>
  rw [hi] at h
  simp only [Option.map_some, Option.some.injEq, Prod.mk.injEq] at h
  have := run_makeSlice w 72 73 i _ Try.underlying72 hi h.1 .i64 .i64 n n (by omega) (Int.le_refl _) (by rw [h.2.1]; simp; omega) (by rw [h.2.2]; omega) (by omega)
  rw [h.2.1] at this
  simpa using this
theorem madeCells_at (q : IntKind) (n i : Nat) (hi : i < n) : (madeCells (Value.int q 0).cells n)[i]? = some (.int q 0) := by
  simp [madeCells, Value.cells, hi, Nat.mod_one]
set_option maxHeartbeats 4000000 in
set_option maxRecDepth 100000 in
theorem share_nil (k : Nat) (a0 : Int) (A1 : Option Addr) (c1 : Nat) (l1 : List Int) (s e : Int) (w : World) (hr1 : Kd.C (Kd.int .i64) w A1 l1.length l1) (hc1 : l1.length ≤ c1) (h : apportion_check.f k a0 l1 = some (s, e)) (hz : ¬ (e = 0 ∧ 0 < l1.length)) :
    Calls Try.prog 31 #[.int .i64 a0, .slice A1 l1.length c1] w fun e' w' => ∃ v0_ : Value, e' = .returned (.tuple #[v0_, .int .i64 e]) ∧ Kd.R (Kd.int .i64) 3 w' w.heap.size (fun _ => True) v0_ [] ∧ Below w.heap.size w w' := by
  have HB := Aside0.mk (Below.refl w.heap.size w)
  have HR1 := Aside0.mk hr1
  have HC1 := Aside0.mk hc1
  have HF := Aside0.mk h
  by_cases he : e = 0
  · have hl : l1.length = 0 := by omega
    have hl2 : ((l1.length : Int) == 0) = true := beq_iff_eq.mpr (by omega)
    have he2 : (e != 0) = false := bne_eq_false_iff_eq.mpr he
    have HZ := Aside0.mk hl
    have HE := Aside0.mk he
    clear hz hl hr1 hc1 h he
    go_enter Try.func31, Try.ntmps31
    go_wp2_with (first | (go_at_call 40; refine (apportion_check.calls k a0 A1 c1 l1 s e _ HR1.out HC1.out HF.out).mono ?_; rintro e1 w1 ⟨rfl, ⟨m1, rfl⟩⟩))
    go_ret2
    exact ⟨_, rfl, Kd.R_nil _ _ _ _ _, by repeat (first | (with_reducible first | exact HB.out | apply below_alloc | apply pw_below_drewN | apply below_drew1) | exact HB.out)⟩
  · have he2 : (e != 0) = true := bne_iff_ne.mpr he
    clear hz hr1 hc1 h he
    go_enter Try.func31, Try.ntmps31
    go_wp2_with (first | (go_at_call 40; refine (apportion_check.calls k a0 A1 c1 l1 s e _ HR1.out HC1.out HF.out).mono ?_; rintro e1 w1 ⟨rfl, ⟨m1, rfl⟩⟩))
    go_ret2
    exact ⟨_, rfl, Kd.R_nil _ _ _ _ _, by repeat (first | (with_reducible first | exact HB.out | apply below_alloc | apply pw_below_drewN | apply below_drew1) | exact HB.out)⟩
theorem RowAt.made (W : World) (q : IntKind) (n : Nat) (t : TypeId) : RowAt (W.alloc (.cells (madeCells (Value.int q 0).cells n) t)) W.heap.size n t (fun _ => .int q 0) := by
  refine ⟨_, ?_, blk_new W _, fun i hi => madeCells_at q n i hi⟩
  simp [madeCells, Value.cells]
theorem RowAt.row {W : World} {g n base : Nat} {f : Nat → Int} (h : RowAt W g n 3 (fun i => .int .i64 (f i))) (hg : base ≤ g) (hn : n ≤ 1000) : Kd.R (Kd.int .i64) 3 W base (fun _ => True) (.slice (some ⟨g, 0, none⟩) n n) ((List.range n).map f) := by
  obtain ⟨cur, hs, hb, hc⟩ := h
  have el : cur.toList = (List.range n).map (fun i => Value.int .i64 (f i)) := by
    apply List.ext_getElem?
    intro i
    by_cases hi : i < n
    · rw [Array.getElem?_toList, hc i hi]; simp [hi]
    · rw [Array.getElem?_toList]; simp [hs, hi]
  refine ⟨fun _ _ => trivial, (List.range n).map (fun i => Value.int .i64 (f i)), ⟨by simp [Kd.int, Kd.scalar], .inr ⟨g, n, cur, by simp, hg, hb, by simp, by simp [maxLen]; omega, by simp [Kd.int, Kd.scalar, hs], ?_⟩⟩, ?_⟩
  · rw [el]; simp [Kd.int, Kd.scalar]; exact List.take_of_length_le (by simp)
  · refine ⟨by simp [Kd.int, Kd.scalar], fun j p hj => ?_⟩
    have hj2 : j < n := by
      have := (List.getElem?_eq_some_iff.mp hj).1
      simpa using this
    rw [List.getElem?_map, List.getElem?_range hj2] at hj
    simp only [Option.map_some, Option.some.injEq] at hj
    show ((((List.range n).map (fun i => Value.int .i64 (f i))).drop (j * 1)).take 1) = [Value.int .i64 p]
    apply List.ext_getElem?
    intro i
    cases i with
    | zero => rw [List.getElem?_take, if_pos (by omega), List.getElem?_drop]; simp [hj2, hj]
    | succ i => rw [List.getElem?_take, if_neg (by omega)]; simp
theorem LW.sorted {w0 W W' : World} {gs gr gb go n : Nat} {S R : Nat → Int} {A A' : Nat → Nat} (N : LN w0 gs gr gb go) (h : LW w0 gs gr gb go n S R (fun p => A p) W) (hS : SortW W go n A' W') : LW w0 gs gr gb go n S R (fun p => A' p) W' := by
  have far : ∀ {g t f}, g ≠ go → RowAt W g n t f → RowAt W' g n t f := by
    intro g t f hg hr
    obtain ⟨cur, hs, hb, hc⟩ := hr
    exact ⟨cur, hs, (hS.keep.2 g (blk_lt hb) hg (by simp)).trans hb, hc⟩
  have farb : RowAt W' gb 1 72 (fun _ => .slice (some ⟨gr, 0, none⟩) n n) := by
    obtain ⟨cur, hs, hb, hc⟩ := h.rb
    exact ⟨cur, hs, (hS.keep.2 gb (blk_lt hb) N.bo (by simp)).trans hb, hc⟩
  obtain ⟨cur, hs, hb, hc⟩ := hS.row
  exact ⟨far N.so h.rs, far N.ro h.rr, farb, ⟨cur, hs, hb, hc⟩, ⟨hS.os.trans h.bel.os, hS.tape.trans h.bel.tape, hS.output.trans h.bel.output, Nat.le_trans h.bel.size hS.keep.1, fun k hk => (hS.keep.2 k (Nat.lt_of_lt_of_le hk h.bel.size) (by have := N.o; omega) (by simp)).trans (h.bel.block k hk)⟩⟩
theorem LW.sort0 {w0 W : World} {gs gr gb go n : Nat} {S R O : Nat → Int} (h : LW w0 gs gr gb go n S R O W) (hO : ∀ p, p < n → O p = p) : SortW W go n (fun p => p) W := by
  obtain ⟨cur, hs, hb, hc⟩ := h.ro
  exact ⟨⟨cur, hs, hb, fun i hi => (hc i hi).trans (congrArg (fun z => some (Value.int .i64 z)) (hO i hi))⟩, KeepBut.refl _ _ _, rfl, rfl, rfl⟩
theorem LW.rest0 {w0 W : World} {gs gr gb go n : Nat} {S R O : Nat → Int} (N : LN w0 gs gr gb go) (h : LW w0 gs gr gb go n S R O W) (hn : n ≤ 1000) : RestW W go n gb gr R :=
  ⟨h.rb.cell 0 (by omega), fun k hk => h.rr.cell k hk, N.bo, N.ro, by omega⟩
theorem shLeft_lo (total sum : Int) (ws : List Int) : ∀ i, (∀ k, k < i → 0 ≤ shQ total sum ws k ∧ shQ total sum ws k ≤ 1000000000000) → shLeft total sum ws i ≤ total ∧ total - i * 1000000000000 ≤ shLeft total sum ws i
  | 0, _ => by simp [shLeft]
  | i + 1, h => by
    have := shLeft_lo total sum ws i (fun k hk => h k (by omega))
    have := h i (by omega)
    simp only [shLeft]
    omega
theorem upd_self (f : Nat → Int) (i : Nat) (v : Int) : upd f i v i = v := if_pos rfl
theorem rank_congr {R R1 : Nat → Int} {n : Nat} (h : ∀ p, p < n → R1 p = R p) (i : Nat) (hi : i < n) : rank R1 n i = rank R n i := by
  unfold rank
  exact sumN_congr fun k hk => by rw [h i hi, h k hk]
theorem heap_size_alloc (w : World) (o : Obj) : (w.alloc o).heap.size = w.heap.size + 1 := by first | exact Array.size_push _ | (unfold World.alloc; simp)
theorem LN.start (w : World) : LN w w.heap.size (w.heap.size + 1) (w.heap.size + 1 + 1) (w.heap.size + 1 + 1 + 1) := by
  constructor <;> omega
theorem LW.start (w : World) (m n : Nat) : LW w w.heap.size (w.heap.size + 1) (w.heap.size + 1 + 1) (w.heap.size + 1 + 1 + 1) n (fun _ => 0) (fun _ => 0) (fun _ => 0) (((((w.drewN m).alloc (Obj.cells (madeCells #[Value.int IntKind.i64 0] n) 3)).alloc (Obj.cells (madeCells #[Value.int IntKind.u64 0] n) 73)).alloc (Obj.cells #[Value.slice (some { block := w.heap.size + 1, off := 0 }) n n] 72)).alloc (Obj.cells (madeCells #[Value.int IntKind.i64 0] n) 3)) := by
  have z1 := heap_size_alloc (w.drewN m) (Obj.cells (madeCells #[Value.int IntKind.i64 0] n) 3)
  have z2 := heap_size_alloc ((w.drewN m).alloc (Obj.cells (madeCells #[Value.int IntKind.i64 0] n) 3)) (Obj.cells (madeCells #[Value.int IntKind.u64 0] n) 73)
  have z3 := heap_size_alloc (((w.drewN m).alloc (Obj.cells (madeCells #[Value.int IntKind.i64 0] n) 3)).alloc (Obj.cells (madeCells #[Value.int IntKind.u64 0] n) 73)) (Obj.cells #[Value.slice (some { block := w.heap.size + 1, off := 0 }) n n] 72)
  have z0 : (w.drewN m).heap.size = w.heap.size := rfl
  rw [z0] at z1
  rw [z1] at z2
  rw [z2] at z3
  have a1 := RowAt.made (w.drewN m) .i64 n 3
  have a2 := RowAt.made ((w.drewN m).alloc (Obj.cells (madeCells #[Value.int IntKind.i64 0] n) 3)) .u64 n 73
  have a4 := RowAt.made ((((w.drewN m).alloc (Obj.cells (madeCells #[Value.int IntKind.i64 0] n) 3)).alloc (Obj.cells (madeCells #[Value.int IntKind.u64 0] n) 73)).alloc (Obj.cells #[Value.slice (some { block := w.heap.size + 1, off := 0 }) n n] 72)) .i64 n 3
  have a3 : RowAt ((((w.drewN m).alloc (Obj.cells (madeCells #[Value.int IntKind.i64 0] n) 3)).alloc (Obj.cells (madeCells #[Value.int IntKind.u64 0] n) 73)).alloc (Obj.cells #[Value.slice (some { block := w.heap.size + 1, off := 0 }) n n] 72)) (w.heap.size + 1 + 1) 1 72 (fun _ => .slice (some ⟨w.heap.size + 1, 0, none⟩) n n) := by
    refine ⟨_, ?_, by rw [← z2]; exact blk_new _ _, fun i hi => ?_⟩
    · rfl
    · obtain rfl : i = 0 := by omega
      rfl
  rw [z0] at a1
  rw [z1] at a2
  rw [z3] at a4
  exact ⟨((a1.below (below_alloc (Below.refl _ _) _)).below (below_alloc (Below.refl _ _) _)).below (below_alloc (Below.refl _ _) _), (a2.below (below_alloc (Below.refl _ _) _)).below (below_alloc (Below.refl _ _) _), a3.below (below_alloc (Below.refl _ _) _), a4, by repeat (first | exact Below.refl _ _ | apply below_alloc | apply pw_below_drewN)⟩
set_option maxHeartbeats 8000000 in
set_option maxRecDepth 100000 in
theorem share_zero (k : Nat) (a0 : Int) (A1 : Option Addr) (c1 : Nat) (l1 : List Int) (w : World) (hr1 : Kd.C (Kd.int .i64) w A1 l1.length l1) (hc1 : l1.length ≤ c1) (h : apportion_check.f k a0 l1 = some (0, 0)) (hl : 0 < l1.length) (hn : l1.length ≤ 1000) (Q R L : Nat → Int)
    (hQ : ∀ i : Nat, i < l1.length → exact_MulDiv.f k (IntKind.u64.wrap a0) (IntKind.u64.wrap 1) (IntKind.u64.wrap (l1.length : Int)) 0 = some (Q i, 0)) (hR : ∀ i : Nat, i < l1.length → exact_MulMod.f k (IntKind.u64.wrap a0) (IntKind.u64.wrap 1) (IntKind.u64.wrap (l1.length : Int)) = some (R i)) (bQ : ∀ i, i < l1.length → 0 ≤ Q i ∧ Q i ≤ 1000000000000) (L0 : L 0 = a0) (LS : ∀ i, i < l1.length → L (i + 1) = L i - Q i) (bL : ∀ i, i ≤ l1.length → -10000000000000000 ≤ L i ∧ L i ≤ 10000000000000000) (hLn : L l1.length ≤ l1.length) :
    Calls Try.prog 31 #[.int .i64 a0, .slice A1 l1.length c1] w fun e' w' => ∃ v0_ : Value, e' = .returned (.tuple #[v0_, .int .i64 0]) ∧ Kd.R (Kd.int .i64) 3 w' w.heap.size (fun _ => True) v0_ ((List.range l1.length).map fun i => Q i + if (rank R l1.length i : Int) < L l1.length then 1 else 0) ∧ Below w.heap.size w w' := by
  have HB := Aside0.mk (Below.refl w.heap.size w)
  have HR1 := Aside0.mk hr1
  have HC1 := Aside0.mk hc1
  have HF := Aside0.mk h
  have HQ := Aside0.mk hQ
  have HR := Aside0.mk hR
  have HBQ := Aside0.mk bQ
  have HL0 := Aside0.mk L0
  have HLS := Aside0.mk LS
  have HBL := Aside0.mk bL
  have HLN := Aside0.mk hLn
  have HN := Aside0.mk hn
  have hl2 : ((l1.length : Int) == 0) = false := beq_eq_false_iff_ne.mpr (by omega)
  have hl3 : ¬ (l1 = []) := fun h_ => by rw [h_] at hl; exact absurd hl (by decide)
  have hm1 := fun w => make_ints l1.length hn w
  have hm2 := fun w => make_u64s l1.length hn w
  clear hr1 hc1 h hQ hR bQ L0 LS bL hLn hn
  go_enter Try.func31, Try.ntmps31
  go_wp2_with (first | (go_at_call 40; refine (apportion_check.calls k a0 A1 c1 l1 0 0 _ HR1.out HC1.out HF.out).mono ?_; rintro e1 w1 ⟨rfl, ⟨m1, rfl⟩⟩))
  have HLW0 := Aside0.mk (LW.start w m1 l1.length)
  have HLN0 := Aside0.mk (LN.start w)
  have hgb : w.heap.size ≤ w.heap.size := Nat.le_refl _
  generalize (((((w.drewN m1).alloc (Obj.cells (madeCells #[Value.int IntKind.i64 0] l1.length) 3)).alloc (Obj.cells (madeCells #[Value.int IntKind.u64 0] l1.length) 73)).alloc (Obj.cells #[Value.slice (some { block := w.heap.size + 1, off := 0 }) l1.length l1.length] 72)).alloc (Obj.cells (madeCells #[Value.int IntKind.i64 0] l1.length) 3)) = W0 at HLW0 ⊢
  generalize w.heap.size + 1 + 1 + 1 = go at HLW0 HLN0 ⊢
  generalize w.heap.size + 1 + 1 = gb at HLW0 HLN0 ⊢
  generalize w.heap.size + 1 = gr at HLW0 HLN0 ⊢
  clear hgb hm1 hm2
  obtain ⟨gs, hgs⟩ : ∃ gs, gs = w.heap.size := ⟨_, rfl⟩
  rw [← hgs] at HLW0 HLN0 ⊢
  have HGS := Aside0.mk hgs
  clear hgs
  go_loopw [12, 49] (fun u v wr => ∃ (i : Nat) (S R1 O : Nat → Int), u = .int .i64 (L i) ∧ v = .int .i64 i ∧ i ≤ l1.length ∧ Aside0 (LW w gs gr gb go l1.length S R1 O wr) ∧ Aside0 (∀ p, p < i → S p = Q p ∧ R1 p = R p ∧ O p = p)) (fun _ v _ => l1.length - (intOf v).toNat)
  case atStart => exact ⟨0, _, _, _, by rw [HL0.out], rfl, Nat.zero_le _, HLW0, ⟨fun p hp => absurd hp (by omega)⟩⟩
  case round =>
    clear HLW0
    obtain ⟨i, S, R1, O, rfl, rfl, hi, HLW, HV⟩ := hrel
    by_cases c : i < l1.length
    · have d : decide ((i : Int) < (l1.length : Int)) = true := decide_eq_true (by omega)
      obtain ⟨ad, e, hx⟩ := Kd.at_int HR1.out (i : Int) (by omega) (by omega)
      cases e
      rw [show ((i : Int)).toNat = i from Int.toNat_natCast i] at hx
      replace hx := (HLW.out.bel.cell (World.block_lt_of_cell? w _ hx)).trans hx
      go_wp2_with (first | (go_at_call 41; refine (exact_MulDiv.calls k _ _ _ 0 (Q i) 0 _ (HQ.out i c)).mono ?_; rintro e w2 ⟨rfl, hb2⟩; have HW2 := Aside0.mk (HLW.out.below hb2); clear hb2))
      have bx := HW2.out.rb.cell 0 (by omega)
      have bq := HBQ.out i c
      have wq : IntKind.i64.wrap (Q i) = Q i := IntWalk.i64_in _ (by omega)
      have p0 : (0 : Int) ≤ (i : Int) := by omega
      have q0 : (i : Int) < (l1.length : Int) := by omega
      have HM := Aside0.mk (fun w => exact_MulMod.calls k _ _ _ (R i) w (HR.out i c))
      go_region_held3 (fun w' => w'.cell? ⟨gb, 0, none⟩ = some (.slice (some ⟨gr, 0, none⟩) l1.length l1.length))
        (first | exact bx | assumption | go_keep)
        (first | (go_at_call 42; refine (HM.out _).mono ?_; rintro e w3 ⟨rfl, hb3⟩; have HW3 := Aside0.mk ((HW2.out.drewN 1).below hb3); have bx3 := HW3.out.rb.cell 0 (by omega); have bx4 := (HW3.out.setR HLN0.out i c (R i)).rb.cell 0 (by omega); have cr3 := HW3.out.rr.cell i c; have fr3 := HW3.out.rr.free i))
      (have HW4 := Aside0.mk (HW3.out.setR HLN0.out i c (R i)))
      clear HW2 HW3 bx cr3 fr3 bx3 bx4 hx
      (have cs := HW4.out.rs.cell i c)
      (have fs := HW4.out.rs.free i)
      (have co := HW4.out.ro.cell i c)
      (have fo := HW4.out.ro.free i)
      (have HW5 := Aside0.mk (HW4.out.setS HLN0.out i c (Q i)))
      (have HW6 := Aside0.mk (HW4.out.setO HLN0.out i c i))
      (have HW7 := Aside0.mk (HW5.out.setO HLN0.out i c i))
      (have cs7 := HW7.out.rs.cell i c)
      rw [upd_self] at cs7
      (have co5 := HW5.out.ro.cell i c)
      (have cs6 := HW6.out.rs.cell i c)
      have hn1 := HN.out
      have bl := HBL.out i hi
      go_wp2
      go_roundw
      case rel => exact ⟨i + 1, _, _, _, by first | rw [HLS.out i c] | rw [HLS.out i c, show wrap64 (L i - Q i) = L i - Q i by unfold wrap64; omega], by exact congrArg (Value.int .i64) (by omega), c, HW7, ⟨fun p hp => by
        by_cases e : p = i
        · subst e; exact ⟨upd_self _ _ _, upd_self _ _ _, upd_self _ _ _⟩
        · have := HV.out p (by omega)
          refine ⟨?_, ?_, ?_⟩
          · rw [← this.1]; exact if_neg e
          · rw [← this.2.1]; exact if_neg e
          · rw [← this.2.2]; exact if_neg e⟩⟩
      case measure => simp only [intOf]; omega
    · have d : decide ((i : Int) < (l1.length : Int)) = false := decide_eq_false (by omega)
      obtain rfl : i = l1.length := by omega
      have HS0 := Aside0.mk (HLW.out.sort0 (fun p hp => (HV.out p hp).2.2))
      have HR0 := Aside0.mk (HLW.out.rest0 HLN0.out HN.out)
      go_wp2_with (first | (go_at_call 43; refine (Stable_calls HR0.out HS0.out (fun _ _ => rfl) (by have := HN.out; omega)).mono ?_; rintro e w2 ⟨rfl, A2, hS2, hW2, hO2⟩; have HW2 := Aside0.mk hW2; have HO2 := Aside0.mk hO2; have HS2 := Aside0.mk hS2; clear hS2 hW2 hO2))
      have HLW2 := Aside0.mk (LW.sorted (A := fun p => p) HLN0.out (LW.mk HLW.out.rs HLW.out.rr HLW.out.rb (HLW.out.ro.congr (fun p hp => congrArg (Value.int .i64) (HV.out p hp).2.2.symm)) HLW.out.bel) HS2.out)
      have HVQ := Aside0.mk (fun p hp => (HV.out p hp).1)
      have hRR : ∀ p, p < l1.length → R1 p = R p := fun p hp => (HV.out p hp).2.1
      have HRR := Aside0.mk hRR
      clear hRR HLW HV HS2 HS0 HR0
      go_loopw [17] (fun v wr => ∃ (t : Nat) (S3 : Nat → Int), v = .int .i64 t ∧ ((t : Int) ≤ L l1.length ∨ t = 0) ∧ Aside0 (LW w gs gr gb go l1.length S3 R1 (fun p => A2 p) wr) ∧ Aside0 (∀ p, p < l1.length → S3 p = Q p + if rank R1 l1.length p < t then 1 else 0)) (fun v _ => l1.length - (intOf v).toNat)
      case atStart => exact ⟨0, S, rfl, .inr rfl, HLW2, ⟨fun p hp => by rw [HVQ.out p hp, if_neg (by omega)]; omega⟩⟩
      case round =>
        obtain ⟨t, S3, rfl, ht, HLW3, HV3⟩ := hrel
        by_cases c : (t : Int) < L l1.length
        · have d : decide ((t : Int) < L l1.length) = true := decide_eq_true c
          have htn : t < l1.length := by have := HLN.out; omega
          have ha : A2 t < l1.length := HW2.out.all (n := l1.length) (Q := fun v => v < l1.length) (Nat.le_refl _) (fun k hk => hk) t htn
          have hra : rank R1 l1.length (A2 t) = t := rank_at (fun _ _ => rfl) HW2.out HO2.out t htn
          have HRA := Aside0.mk hra
          have co := HLW3.out.ro.cell t htn
          have cs := HLW3.out.rs.cell (A2 t) ha
          have fs := HLW3.out.rs.free (A2 t)
          have hv := HV3.out (A2 t) ha
          rw [hra, if_neg (by omega), Int.add_zero] at hv
          rw [hv] at cs
          have HSV := Aside0.mk hv
          have bq := HBQ.out (A2 t) ha
          have hn1 := HN.out
          clear hv hra
          have HA := Aside0.mk (rfl : A2 t = A2 t)
          have p0 : (0 : Int) ≤ (t : Int) := by omega
          have q0 : (t : Int) < (l1.length : Int) := by omega
          have p1 : (0 : Int) ≤ (A2 t : Int) := by omega
          have q1 : (A2 t : Int) < (l1.length : Int) := by omega
          go_wp2
          go_roundw
          case rel =>
            refine ⟨t + 1, _, ?_, .inl (by omega), ⟨HLW3.out.setS HLN0.out (A2 t) ha (Q (A2 t) + 1)⟩, ⟨fun p hp => ?_⟩⟩
            · exact congrArg (Value.int .i64) (by omega)
            · by_cases e : p = A2 t
              · subst e
                rw [upd_self, HRA.out, if_pos (by omega)]
              · rw [show upd S3 (A2 t) (Q (A2 t) + 1) p = S3 p from if_neg e, HV3.out p hp]
                have hne : rank R1 l1.length p ≠ t := fun h => by
                  obtain ⟨q, hq, rfl⟩ := sw_onto (n := l1.length) (fun _ _ => rfl) HW2.out p hp
                  rw [rank_at (fun _ _ => rfl) HW2.out HO2.out q hq] at h
                  exact e (by rw [h])
                by_cases z : rank R1 l1.length p < t
                · rw [if_pos z, if_pos (by omega)]
                · rw [if_neg z, if_neg (by omega)]
          case measure => simp only [intOf]; omega
        · have d : decide ((t : Int) < L l1.length) = false := decide_eq_false c
          go_wp2
          go_ret2
          refine ⟨_, rfl, ?_, by repeat (first | (with_reducible first | exact HLW3.out.bel | apply below_alloc | apply pw_below_drewN | apply below_drew1) | exact HLW3.out.bel)⟩
          have hr := HLW3.out.rs.row (base := w.heap.size) HLN0.out.s HN.out
          have el : (List.range l1.length).map S3 = (List.range l1.length).map fun i => Q i + if (rank R l1.length i : Int) < L l1.length then 1 else 0 := by
            refine List.map_congr_left fun i hi => ?_
            rw [HV3.out i (List.mem_range.mp hi), rank_congr HRR.out i (List.mem_range.mp hi)]
            by_cases z : rank R l1.length i < t
            · rw [if_pos z, if_pos (by omega)]
            · rw [if_neg z, if_neg (by omega)]
          rw [← el]
          exact hr
set_option maxHeartbeats 8000000 in
set_option maxRecDepth 100000 in
theorem share_some (k : Nat) (a0 : Int) (A1 : Option Addr) (c1 : Nat) (l1 : List Int) (s : Int) (w : World) (hr1 : Kd.C (Kd.int .i64) w A1 l1.length l1) (hc1 : l1.length ≤ c1) (h : apportion_check.f k a0 l1 = some (s, 0)) (hs : s ≠ 0) (hl : 0 < l1.length) (hn : l1.length ≤ 1000) (Q R L : Nat → Int)
    (hQ : ∀ i : Nat, i < l1.length → exact_MulDiv.f k (IntKind.u64.wrap a0) (IntKind.u64.wrap (rd l1 i)) (IntKind.u64.wrap s) 0 = some (Q i, 0)) (hR : ∀ i : Nat, i < l1.length → exact_MulMod.f k (IntKind.u64.wrap a0) (IntKind.u64.wrap (rd l1 i)) (IntKind.u64.wrap s) = some (R i)) (bQ : ∀ i, i < l1.length → 0 ≤ Q i ∧ Q i ≤ 1000000000000) (L0 : L 0 = a0) (LS : ∀ i, i < l1.length → L (i + 1) = L i - Q i) (bL : ∀ i, i ≤ l1.length → -10000000000000000 ≤ L i ∧ L i ≤ 10000000000000000) (hLn : L l1.length ≤ l1.length) :
    Calls Try.prog 31 #[.int .i64 a0, .slice A1 l1.length c1] w fun e' w' => ∃ v0_ : Value, e' = .returned (.tuple #[v0_, .int .i64 0]) ∧ Kd.R (Kd.int .i64) 3 w' w.heap.size (fun _ => True) v0_ ((List.range l1.length).map fun i => Q i + if (rank R l1.length i : Int) < L l1.length then 1 else 0) ∧ Below w.heap.size w w' := by
  have HB := Aside0.mk (Below.refl w.heap.size w)
  have HR1 := Aside0.mk hr1
  have HC1 := Aside0.mk hc1
  have HF := Aside0.mk h
  have HQ := Aside0.mk hQ
  have HR := Aside0.mk hR
  have HBQ := Aside0.mk bQ
  have HL0 := Aside0.mk L0
  have HLS := Aside0.mk LS
  have HBL := Aside0.mk bL
  have HLN := Aside0.mk hLn
  have HN := Aside0.mk hn
  have hl2 : ((l1.length : Int) == 0) = false := beq_eq_false_iff_ne.mpr (by omega)
  have hl3 : ¬ (l1 = []) := fun h_ => by rw [h_] at hl; exact absurd hl (by decide)
  have hs2 : (s == 0) = false := beq_eq_false_iff_ne.mpr hs
  clear hs
  have hm1 := fun w => make_ints l1.length hn w
  have hm2 := fun w => make_u64s l1.length hn w
  clear hr1 hc1 h hQ hR bQ L0 LS bL hLn hn
  go_enter Try.func31, Try.ntmps31
  go_wp2_with (first | (go_at_call 40; refine (apportion_check.calls k a0 A1 c1 l1 s 0 _ HR1.out HC1.out HF.out).mono ?_; rintro e1 w1 ⟨rfl, ⟨m1, rfl⟩⟩))
  have HLW0 := Aside0.mk (LW.start w m1 l1.length)
  have HLN0 := Aside0.mk (LN.start w)
  have hgb : w.heap.size ≤ w.heap.size := Nat.le_refl _
  generalize (((((w.drewN m1).alloc (Obj.cells (madeCells #[Value.int IntKind.i64 0] l1.length) 3)).alloc (Obj.cells (madeCells #[Value.int IntKind.u64 0] l1.length) 73)).alloc (Obj.cells #[Value.slice (some { block := w.heap.size + 1, off := 0 }) l1.length l1.length] 72)).alloc (Obj.cells (madeCells #[Value.int IntKind.i64 0] l1.length) 3)) = W0 at HLW0 ⊢
  generalize w.heap.size + 1 + 1 + 1 = go at HLW0 HLN0 ⊢
  generalize w.heap.size + 1 + 1 = gb at HLW0 HLN0 ⊢
  generalize w.heap.size + 1 = gr at HLW0 HLN0 ⊢
  clear hgb hm1 hm2
  obtain ⟨gs, hgs⟩ : ∃ gs, gs = w.heap.size := ⟨_, rfl⟩
  rw [← hgs] at HLW0 HLN0 ⊢
  have HGS := Aside0.mk hgs
  clear hgs
  go_loopw [12, 49] (fun u v wr => ∃ (i : Nat) (S R1 O : Nat → Int), u = .int .i64 (L i) ∧ v = .int .i64 i ∧ i ≤ l1.length ∧ Aside0 (LW w gs gr gb go l1.length S R1 O wr) ∧ Aside0 (∀ p, p < i → S p = Q p ∧ R1 p = R p ∧ O p = p)) (fun _ v _ => l1.length - (intOf v).toNat)
  case atStart => exact ⟨0, _, _, _, by rw [HL0.out], rfl, Nat.zero_le _, HLW0, ⟨fun p hp => absurd hp (by omega)⟩⟩
  case round =>
    clear HLW0
    obtain ⟨i, S, R1, O, rfl, rfl, hi, HLW, HV⟩ := hrel
    by_cases c : i < l1.length
    · have d : decide ((i : Int) < (l1.length : Int)) = true := decide_eq_true (by omega)
      obtain ⟨ad, e, hx⟩ := Kd.at_int HR1.out (i : Int) (by omega) (by omega)
      cases e
      rw [show ((i : Int)).toNat = i from Int.toNat_natCast i] at hx
      replace hx := (HLW.out.bel.cell (World.block_lt_of_cell? w _ hx)).trans hx
      go_wp2_with (first | (go_at_call 41; refine (exact_MulDiv.calls k _ _ _ 0 (Q i) 0 _ (HQ.out i c)).mono ?_; rintro e w2 ⟨rfl, hb2⟩; have HW2 := Aside0.mk (HLW.out.below hb2); clear hb2))
      have bx := HW2.out.rb.cell 0 (by omega)
      have bq := HBQ.out i c
      have wq : IntKind.i64.wrap (Q i) = Q i := IntWalk.i64_in _ (by omega)
      have p0 : (0 : Int) ≤ (i : Int) := by omega
      have q0 : (i : Int) < (l1.length : Int) := by omega
      have HM := Aside0.mk (fun w => exact_MulMod.calls k _ _ _ (R i) w (HR.out i c))
      go_region_held3 (fun w' => w'.cell? ⟨gb, 0, none⟩ = some (.slice (some ⟨gr, 0, none⟩) l1.length l1.length))
        (first | exact bx | assumption | go_keep)
        (first | (go_at_call 42; refine (HM.out _).mono ?_; rintro e w3 ⟨rfl, hb3⟩; have HW3 := Aside0.mk ((HW2.out.drewN 1).below hb3); have bx3 := HW3.out.rb.cell 0 (by omega); have bx4 := (HW3.out.setR HLN0.out i c (R i)).rb.cell 0 (by omega); have cr3 := HW3.out.rr.cell i c; have fr3 := HW3.out.rr.free i))
      (have HW4 := Aside0.mk (HW3.out.setR HLN0.out i c (R i)))
      clear HW2 HW3 bx cr3 fr3 bx3 bx4 hx
      (have cs := HW4.out.rs.cell i c)
      (have fs := HW4.out.rs.free i)
      (have co := HW4.out.ro.cell i c)
      (have fo := HW4.out.ro.free i)
      (have HW5 := Aside0.mk (HW4.out.setS HLN0.out i c (Q i)))
      (have HW6 := Aside0.mk (HW4.out.setO HLN0.out i c i))
      (have HW7 := Aside0.mk (HW5.out.setO HLN0.out i c i))
      (have cs7 := HW7.out.rs.cell i c)
      rw [upd_self] at cs7
      (have co5 := HW5.out.ro.cell i c)
      (have cs6 := HW6.out.rs.cell i c)
      have hn1 := HN.out
      have bl := HBL.out i hi
      go_wp2
      go_roundw
      case rel => exact ⟨i + 1, _, _, _, by first | rw [HLS.out i c] | rw [HLS.out i c, show wrap64 (L i - Q i) = L i - Q i by unfold wrap64; omega], by exact congrArg (Value.int .i64) (by omega), c, HW7, ⟨fun p hp => by
        by_cases e : p = i
        · subst e; exact ⟨upd_self _ _ _, upd_self _ _ _, upd_self _ _ _⟩
        · have := HV.out p (by omega)
          refine ⟨?_, ?_, ?_⟩
          · rw [← this.1]; exact if_neg e
          · rw [← this.2.1]; exact if_neg e
          · rw [← this.2.2]; exact if_neg e⟩⟩
      case measure => simp only [intOf]; omega
    · have d : decide ((i : Int) < (l1.length : Int)) = false := decide_eq_false (by omega)
      obtain rfl : i = l1.length := by omega
      have HS0 := Aside0.mk (HLW.out.sort0 (fun p hp => (HV.out p hp).2.2))
      have HR0 := Aside0.mk (HLW.out.rest0 HLN0.out HN.out)
      go_wp2_with (first | (go_at_call 43; refine (Stable_calls HR0.out HS0.out (fun _ _ => rfl) (by have := HN.out; omega)).mono ?_; rintro e w2 ⟨rfl, A2, hS2, hW2, hO2⟩; have HW2 := Aside0.mk hW2; have HO2 := Aside0.mk hO2; have HS2 := Aside0.mk hS2; clear hS2 hW2 hO2))
      have HLW2 := Aside0.mk (LW.sorted (A := fun p => p) HLN0.out (LW.mk HLW.out.rs HLW.out.rr HLW.out.rb (HLW.out.ro.congr (fun p hp => congrArg (Value.int .i64) (HV.out p hp).2.2.symm)) HLW.out.bel) HS2.out)
      have HVQ := Aside0.mk (fun p hp => (HV.out p hp).1)
      have hRR : ∀ p, p < l1.length → R1 p = R p := fun p hp => (HV.out p hp).2.1
      have HRR := Aside0.mk hRR
      clear hRR HLW HV HS2 HS0 HR0
      go_loopw [17] (fun v wr => ∃ (t : Nat) (S3 : Nat → Int), v = .int .i64 t ∧ ((t : Int) ≤ L l1.length ∨ t = 0) ∧ Aside0 (LW w gs gr gb go l1.length S3 R1 (fun p => A2 p) wr) ∧ Aside0 (∀ p, p < l1.length → S3 p = Q p + if rank R1 l1.length p < t then 1 else 0)) (fun v _ => l1.length - (intOf v).toNat)
      case atStart => exact ⟨0, S, rfl, .inr rfl, HLW2, ⟨fun p hp => by rw [HVQ.out p hp, if_neg (by omega)]; omega⟩⟩
      case round =>
        obtain ⟨t, S3, rfl, ht, HLW3, HV3⟩ := hrel
        by_cases c : (t : Int) < L l1.length
        · have d : decide ((t : Int) < L l1.length) = true := decide_eq_true c
          have htn : t < l1.length := by have := HLN.out; omega
          have ha : A2 t < l1.length := HW2.out.all (n := l1.length) (Q := fun v => v < l1.length) (Nat.le_refl _) (fun k hk => hk) t htn
          have hra : rank R1 l1.length (A2 t) = t := rank_at (fun _ _ => rfl) HW2.out HO2.out t htn
          have HRA := Aside0.mk hra
          have co := HLW3.out.ro.cell t htn
          have cs := HLW3.out.rs.cell (A2 t) ha
          have fs := HLW3.out.rs.free (A2 t)
          have hv := HV3.out (A2 t) ha
          rw [hra, if_neg (by omega), Int.add_zero] at hv
          rw [hv] at cs
          have HSV := Aside0.mk hv
          have bq := HBQ.out (A2 t) ha
          have hn1 := HN.out
          clear hv hra
          have HA := Aside0.mk (rfl : A2 t = A2 t)
          have p0 : (0 : Int) ≤ (t : Int) := by omega
          have q0 : (t : Int) < (l1.length : Int) := by omega
          have p1 : (0 : Int) ≤ (A2 t : Int) := by omega
          have q1 : (A2 t : Int) < (l1.length : Int) := by omega
          go_wp2
          go_roundw
          case rel =>
            refine ⟨t + 1, _, ?_, .inl (by omega), ⟨HLW3.out.setS HLN0.out (A2 t) ha (Q (A2 t) + 1)⟩, ⟨fun p hp => ?_⟩⟩
            · exact congrArg (Value.int .i64) (by omega)
            · by_cases e : p = A2 t
              · subst e
                rw [upd_self, HRA.out, if_pos (by omega)]
              · rw [show upd S3 (A2 t) (Q (A2 t) + 1) p = S3 p from if_neg e, HV3.out p hp]
                have hne : rank R1 l1.length p ≠ t := fun h => by
                  obtain ⟨q, hq, rfl⟩ := sw_onto (n := l1.length) (fun _ _ => rfl) HW2.out p hp
                  rw [rank_at (fun _ _ => rfl) HW2.out HO2.out q hq] at h
                  exact e (by rw [h])
                by_cases z : rank R1 l1.length p < t
                · rw [if_pos z, if_pos (by omega)]
                · rw [if_neg z, if_neg (by omega)]
          case measure => simp only [intOf]; omega
        · have d : decide ((t : Int) < L l1.length) = false := decide_eq_false c
          go_wp2
          go_ret2
          refine ⟨_, rfl, ?_, by repeat (first | (with_reducible first | exact HLW3.out.bel | apply below_alloc | apply pw_below_drewN | apply below_drew1) | exact HLW3.out.bel)⟩
          have hr := HLW3.out.rs.row (base := w.heap.size) HLN0.out.s HN.out
          have el : (List.range l1.length).map S3 = (List.range l1.length).map fun i => Q i + if (rank R l1.length i : Int) < L l1.length then 1 else 0 := by
            refine List.map_congr_left fun i hi => ?_
            rw [HV3.out i (List.mem_range.mp hi), rank_congr HRR.out i (List.mem_range.mp hi)]
            by_cases z : rank R l1.length i < t
            · rw [if_pos z, if_pos (by omega)]
            · rw [if_neg z, if_neg (by omega)]
          rw [← el]
          exact hr
theorem shAll_parts {k : Nat} {total sum : Int} {ws : List Int} (h : shAll k total sum ws = true) : (∀ i : Nat, i < ws.length → exact_MulDiv.f k (IntKind.u64.wrap total) (IntKind.u64.wrap (ws.getD i 0)) (IntKind.u64.wrap sum) 0 = some (shQ total sum ws i, 0)) ∧ (∀ i : Nat, i < ws.length → exact_MulMod.f k (IntKind.u64.wrap total) (IntKind.u64.wrap (ws.getD i 0)) (IntKind.u64.wrap sum) = some (shR total sum ws i)) ∧ (∀ i, i < ws.length → 0 ≤ shQ total sum ws i ∧ shQ total sum ws i ≤ 1000000000000) ∧ ws.length ≤ 1000 ∧ (∀ i, i ≤ ws.length → -10000000000000000 ≤ shLeft total sum ws i ∧ shLeft total sum ws i ≤ 10000000000000000) ∧ shLeft total sum ws ws.length ≤ ws.length := by
  unfold shAll at h
  simp only [Bool.and_eq_true, List.all_eq_true, decide_eq_true_eq] at h
  obtain ⟨⟨⟨⟨h1, h2⟩, h3⟩, h4⟩, h5⟩ := h
  have hp : ∀ i, i < ws.length → (exact_MulDiv.f k (IntKind.u64.wrap total) (IntKind.u64.wrap (ws.getD i 0)) (IntKind.u64.wrap sum) 0 = some (shQ total sum ws i, 0) ∧ exact_MulMod.f k (IntKind.u64.wrap total) (IntKind.u64.wrap (ws.getD i 0)) (IntKind.u64.wrap sum) = some (shR total sum ws i)) ∧ 0 ≤ shQ total sum ws i ∧ shQ total sum ws i ≤ 1000000000000 := by
    intro i hi
    have := h1 i (List.mem_range.mpr hi)
    unfold shOk at this
    simp only [Bool.and_eq_true, decide_eq_true_eq] at this
    exact ⟨⟨this.1.1.1, this.1.1.2⟩, this.1.2, this.2⟩
  refine ⟨fun i hi => (hp i hi).1.1, fun i hi => (hp i hi).1.2, fun i hi => (hp i hi).2, h2, fun i hi => ?_, h5⟩
  have := shLeft_lo total sum ws i (fun k hk => (hp k (by omega)).2)
  have : (i : Int) ≤ 1000 := by omega
  omega
theorem shW_len (c : Int) (l : List Int) : (shW c l).length = l.length := by unfold shW; split <;> simp
theorem shW_zero (l : List Int) (i : Nat) (hi : i < l.length) : (shW 0 l).getD i 0 = 1 := by
  unfold shW; rw [if_pos rfl, List.getD_eq_getElem?_getD]; simp [hi]
theorem apportion_Share.calls (k : Nat) (a0 : Int) (A1 : Option Addr) (c1 : Nat) (l1 : List Int) (r1 : List Int) (r2 : Int) (w : World) (hr1 : Kd.C (Kd.int .i64) w A1 l1.length l1) (hc1 : l1.length ≤ c1) (h : apportion_Share.f k a0 l1 = some (r1, r2)) :
    Calls Try.prog 31 #[.int .i64 a0, .slice A1 l1.length c1] w fun e w' => ∃ v0_ : Value, e = .returned (.tuple #[v0_, .int .i64 r2]) ∧ Kd.R (Kd.int .i64) 3 w' w.heap.size (fun _ => True) v0_ r1 ∧ Below w.heap.size w w' := by
  unfold apportion_Share.f at h
  obtain ⟨⟨s, e⟩, hc, h⟩ := Option.bind_eq_some_iff.mp h
  dsimp only at h
  by_cases hz : e = 0 ∧ 0 < l1.length
  · obtain ⟨rfl, hl⟩ := hz
    rw [if_pos ⟨rfl, hl⟩] at h
    by_cases hA : shAll k a0 (shSum s l1) (shW s l1) = true
    · rw [if_pos hA] at h
      simp only [Option.some.injEq, Prod.mk.injEq] at h
      obtain ⟨rfl, rfl⟩ := h
      obtain ⟨p1, p2, p3, p4, p5, p6⟩ := shAll_parts hA
      unfold shOut
      rw [shW_len] at p1 p2 p3 p4 p5 p6 ⊢
      by_cases hs : s = 0
      · subst hs
        have es : shSum 0 l1 = (l1.length : Int) := if_pos rfl
        rw [es] at p1 p2 p3 p5 p6 ⊢
        exact share_zero k a0 A1 c1 l1 w hr1 hc1 hc hl p4 _ _ _ (fun i hi => by have := p1 i hi; rw [shW_zero l1 i hi] at this; exact this) (fun i hi => by have := p2 i hi; rw [shW_zero l1 i hi] at this; exact this) p3 rfl (fun i hi => rfl) p5 p6
      · have es : shSum s l1 = s := if_neg hs
        have ew : shW s l1 = l1 := if_neg hs
        rw [es, ew] at p1 p2 p3 p5 p6 ⊢
        exact share_some k a0 A1 c1 l1 s w hr1 hc1 hc hs hl p4 _ _ _ p1 p2 p3 rfl (fun i hi => rfl) p5 p6
    · rw [if_neg hA] at h; exact absurd h (by simp)
  · rw [if_neg hz] at h
    simp only [Option.some.injEq, Prod.mk.injEq] at h
    obtain ⟨rfl, rfl⟩ := h
    exact share_nil k a0 A1 c1 l1 s e w hr1 hc1 hc hz

end Go.Proofs.Yteoieencagcgdaa.PX
end
section
namespace Go.Proofs.Yteoieencagcgdaa.PX
open Go.RowKit Go.Proofs.YteoieencagcgdaaW.PrintWords Go.Proofs.YteoieencagcgdaaW.PrintLast Go.Proofs.YteoieencagcgdaaW.PrintMore
attribute [local go_sem] max2_int min2_int max_two min_two max_three min_three max_four min_four
set_option linter.unusedVariables false
set_option linter.unusedSimpArgs false

mutual
def currency_valid.j0 : Nat → ByteArray → Bool → Option (Bool)
  | 0, _, _ => none
  | k + 1, x0, x10 => if x10 = true then (some false) else (currency_valid.l0 k x0 0)
def currency_valid.l0 : Nat → ByteArray → Int → Option (Bool)
  | 0, _, _ => none
  | k + 1, x0, x11 => if x11 < 3 then (if 0 ≤ x11 then (if x11 < (x0.size : Int) then (if (bt x0 x11) < 65 then (some false) else (if (bt x0 x11) > 90 then (some false) else (currency_valid.l0 k x0 (wrap64 (x11 + 1))))) else (none)) else (none)) else (some true)
end
def currency_valid.f (k : Nat) (a0 : ByteArray) : Option (Bool) := if (a0.size : Int) = 3 then (currency_valid.j0 k a0 (a0.toList == ([69, 85, 82] : List UInt8))) else (currency_valid.j0 k a0 true)
set_option maxHeartbeats 8000000 in
set_option maxRecDepth 100000 in
theorem currency_valid.calls (k : Nat) (a0 : ByteArray) (r : Bool) (w : World) (h : currency_valid.f k a0 = some r) :
   Calls Try.prog 66 #[.string a0] w fun e w' => e = .returned (.bool r) ∧ Drawn0 w w' := by
  have H : (if (a0.size : Int) = 3 then (currency_valid.j0 k a0 (a0.toList == ([69, 85, 82] : List UInt8))) else (currency_valid.j0 k a0 true)) = some r := h
  clear h
  have HC2 := Aside0.mk H
  clear H
  go_enter Try.func66, Try.ntmps66
  go_upto_region 1 with (fail)
  go_cut [10] (fun v10 wc => ∃ (kq : Nat) (x10_1 : Bool), v10 = .bool x10_1 ∧ Aside0 (currency_valid.j0 kq a0 x10_1 = some r) ∧ Aside0 (kq ≤ k) ∧ Drawn0 w wc)
  case first =>
   have H := HC2.out
   clear HC2
   by_cases c3 : (a0.size : Int) = 3
   ·rw [if_pos c3] at H
    have c3b0 : ((a0.size : Int) == 3) = true := beq_iff_eq.mpr c3
    have c3b1 : ((a0.size : Int) != 3) = false := bne_eq_false_iff_eq.mpr c3
    clear c3
    (first | rw [c3b0] | (simp only [i64_w, i32_w]; rw [c3b0]) | skip)
    have H' := Aside0.mk H
    clear H
    go_wp2
    go_meet
    case rel => exact ⟨_, ((a0.toList == ([69, 85, 82] : List UInt8))), (by first | rfl | (simp; done) | (simp [*]; done)), H', ⟨by first | omega | exact Nat.le_refl _⟩, by repeat (first | exact Drawn0.refl _ | apply Drawn0.step)⟩
   ·rw [if_neg c3] at H
    have c3b0 : ((a0.size : Int) == 3) = false := beq_eq_false_iff_ne.mpr c3
    have c3b1 : ((a0.size : Int) != 3) = true := bne_iff_ne.mpr c3
    (first | rw [c3b0] | (simp only [i64_w, i32_w]; rw [c3b0]) | skip)
    have H' := Aside0.mk H
    clear H
    go_wp2
    go_meet
    case rel => exact ⟨_, (true), (by first | rfl | (simp; done) | (simp [*]; done)), H', ⟨by first | omega | exact Nat.le_refl _⟩, by repeat (first | exact Drawn0.refl _ | apply Drawn0.step)⟩
  case rest =>
   clear HC2
   try clear p2
   try clear c3
   try clear c3b0
   try clear c3b1
   obtain ⟨kq, x10_1, rfl, HA, HJ1, ⟨mc1, rfl⟩⟩ := hcut
   cases kq with
   | zero => exact absurd HA.out (by simp [currency_valid.j0])
   | succ kj1 =>
    have H := HA.out
    clear HA
    simp only [currency_valid.j0] at H
    by_cases c4 : x10_1 = true
    ·subst c4
     have H1 : (some false) = some r := by rw [if_pos rfl] at H; exact H
     clear H
     have H := H1
     clear H1
     obtain rfl := Option.some.inj H
     simp only [Option.some.injEq, Prod.mk.injEq] at H
     obtain ⟨rfl⟩ := H
     go_wp2
     go_ret
     exact ⟨by first | rfl | (simp; done) | (simp [*]; done), by repeat (first | exact Drawn0.refl _ | apply Drawn0.step)⟩
    ·replace c4 := Bool.eq_false_iff.mpr c4
     subst c4
     have H1 : (currency_valid.l0 kj1 a0 0) = some r := by rw [if_neg (show ¬ (false = true) by decide)] at H; exact H
     clear H
     have H := H1
     clear H1
     have H' := Aside0.mk H
     clear H
     go_wp2
     go_loopg [11] kj1 (fun kq v11 w' => ∃ (x11_2 : Int), v11 = .int .i64 x11_2 ∧ Aside0 (currency_valid.l0 kq a0 x11_2 = some r) ∧ Aside0 (kq ≤ kj1) ∧ Drawn0 w w')
     case atStart => exact ⟨(0), (by first | rfl | (simp; done) | (simp [*]; done)), H', ⟨Nat.le_refl _⟩, by repeat (first | exact Drawn0.refl _ | apply Drawn0.step)⟩
     case round =>
      clear H'
      try clear c1
      try clear p2
      try clear c3
      try clear c3b0
      try clear c3b1
      try clear c4
      try clear p2
      obtain ⟨x11_2, rfl, HA, HK2, ⟨m2, rfl⟩⟩ := hrel
      cases gk with
      | zero => exact absurd HA.out (by simp [currency_valid.l0])
      | succ k2 =>
       have H := HA.out
       clear HA
       simp only [currency_valid.l0] at H
       by_cases c5 : x11_2 < 3
       ·rw [if_pos c5] at H
        have c5b0 : decide (x11_2 < 3) = true := decide_eq_true c5
        clear c5
        by_cases c6 : 0 ≤ x11_2
        ·rw [if_pos c6] at H
         have c6b0 : decide (0 ≤ x11_2) = true := decide_eq_true c6
         clear c6
         by_cases c7 : x11_2 < (a0.size : Int)
         ·rw [if_pos c7] at H
          have c7b0 : decide (x11_2 < (a0.size : Int)) = true := decide_eq_true c7
          clear c7
          by_cases c9 : (bt a0 x11_2) < 65
          ·rw [if_pos c9] at H
           have c9b0 : decide ((bt a0 x11_2) < 65) = true := decide_eq_true c9
           clear c9
           obtain rfl := Option.some.inj H
           simp only [Option.some.injEq, Prod.mk.injEq] at H
           obtain ⟨rfl⟩ := H
           have p8 : 0 ≤ (x11_2 : Int) := of_decide_eq_true (by first | (with_reducible assumption) | assumption)
           have q8 : x11_2 < (a0.size : Int) := of_decide_eq_true (by first | (with_reducible assumption) | assumption)
           have hx8 := bt_at a0 x11_2
           replace p8 := eq_true p8
           replace q8 := eq_true q8
           go_wp2
           go_ret
           exact ⟨by first | rfl | (simp; done) | (simp [*]; done), by repeat (first | exact Drawn0.refl _ | apply Drawn0.step)⟩
          ·rw [if_neg c9] at H
           have c9b0 : decide ((bt a0 x11_2) < 65) = false := decide_eq_false c9
           clear c9
           by_cases c11 : (bt a0 x11_2) > 90
           ·rw [if_pos c11] at H
            have c11b0 : decide (90 < (bt a0 x11_2)) = true := decide_eq_true c11
            clear c11
            obtain rfl := Option.some.inj H
            simp only [Option.some.injEq, Prod.mk.injEq] at H
            obtain ⟨rfl⟩ := H
            have p8 : 0 ≤ (x11_2 : Int) := of_decide_eq_true (by first | (with_reducible assumption) | assumption)
            have q8 : x11_2 < (a0.size : Int) := of_decide_eq_true (by first | (with_reducible assumption) | assumption)
            have hx8 := bt_at a0 x11_2
            replace p8 := eq_true p8
            replace q8 := eq_true q8
            have p10 : 0 ≤ (x11_2 : Int) := of_decide_eq_true (by first | (with_reducible assumption) | assumption)
            have q10 : x11_2 < (a0.size : Int) := of_decide_eq_true (by first | (with_reducible assumption) | assumption)
            have hx10 := bt_at a0 x11_2
            replace p10 := eq_true p10
            replace q10 := eq_true q10
            go_wp2
            go_ret
            exact ⟨by first | rfl | (simp; done) | (simp [*]; done), by repeat (first | exact Drawn0.refl _ | apply Drawn0.step)⟩
           ·rw [if_neg c11] at H
            have c11b0 : decide (90 < (bt a0 x11_2)) = false := decide_eq_false c11
            clear c11
            have H' := Aside0.mk H
            clear H
            have p8 : 0 ≤ (x11_2 : Int) := of_decide_eq_true (by first | (with_reducible assumption) | assumption)
            have q8 : x11_2 < (a0.size : Int) := of_decide_eq_true (by first | (with_reducible assumption) | assumption)
            have hx8 := bt_at a0 x11_2
            replace p8 := eq_true p8
            replace q8 := eq_true q8
            have p10 : 0 ≤ (x11_2 : Int) := of_decide_eq_true (by first | (with_reducible assumption) | assumption)
            have q10 : x11_2 < (a0.size : Int) := of_decide_eq_true (by first | (with_reducible assumption) | assumption)
            have hx10 := bt_at a0 x11_2
            replace p10 := eq_true p10
            replace q10 := eq_true q10
            go_wp2
            go_roundg k2
            case measure => have := HJ1.out; have := HK2.out; omega
            case rel => exact ⟨(wrap64 (x11_2 + 1)), (by first | rfl | (simp; done) | (simp [*]; done)), H', ⟨by have := HJ1.out; have := HK2.out; omega⟩, by repeat (first | exact Drawn0.refl _ | apply Drawn0.step)⟩
         ·rw [if_neg c7] at H
          exact absurd H (by simp)
        ·rw [if_neg c6] at H
         exact absurd H (by simp)
       ·rw [if_neg c5] at H
        have c5b0 : decide (x11_2 < 3) = false := decide_eq_false c5
        clear c5
        obtain rfl := Option.some.inj H
        simp only [Option.some.injEq, Prod.mk.injEq] at H
        obtain ⟨rfl⟩ := H
        go_wp2
        go_ret
        exact ⟨by first | rfl | (simp; done) | (simp [*]; done), by repeat (first | exact Drawn0.refl _ | apply Drawn0.step)⟩

end Go.Proofs.Yteoieencagcgdaa.PX
end
section
namespace Go.Proofs.Yteoieencagcgdaa.PX
open Go.RowKit Go.Proofs.YteoieencagcgdaaW.PrintWords Go.Proofs.YteoieencagcgdaaW.PrintLast Go.Proofs.YteoieencagcgdaaW.PrintMore
attribute [local go_sem] max2_int min2_int max_two min_two max_three min_three max_four min_four
set_option linter.unusedVariables false
set_option linter.unusedSimpArgs false

mutual
def currency_Validate.l0 : Nat → List (S61) → List (S61) → Int → Int → Option (Int)
  | 0, _, _, _, _ => none
  | k + 1, x0, x9, x10, x11 => if x11 < x10 then (if 0 ≤ x11 then (if x11 < (x9.length : Int) then ((currency_valid.f k ((rd_T61 x9 x11).f0)).bind fun t188 => (if t188 = true then (if ((rd_T61 x9 x11).f1) < 0 then (currency_Validate.j1 k x0 x11 x9 x10 x11 true ((rd_T61 x9 x11).f0) ((rd_T61 x9 x11).f1) ((rd_T61 x9 x11).f2)) else (if ((rd_T61 x9 x11).f1) > 36524 then (currency_Validate.j1 k x0 x11 x9 x10 x11 true ((rd_T61 x9 x11).f0) ((rd_T61 x9 x11).f1) ((rd_T61 x9 x11).f2)) else (if ((rd_T61 x9 x11).f2) < 1 then (currency_Validate.j1 k x0 x11 x9 x10 x11 true ((rd_T61 x9 x11).f0) ((rd_T61 x9 x11).f1) ((rd_T61 x9 x11).f2)) else (currency_Validate.j1 k x0 x11 x9 x10 x11 (decide (((rd_T61 x9 x11).f2) > 1000000000)) ((rd_T61 x9 x11).f0) ((rd_T61 x9 x11).f1) ((rd_T61 x9 x11).f2))))) else (some 1))) else (none)) else (none)) else (some 0)
def currency_Validate.j1 : Nat → List (S61) → Int → List (S61) → Int → Int → Bool → ByteArray → Int → Int → Option (Int)
  | 0, _, _, _, _, _, _, _, _, _ => none
  | k + 1, x0, x3, x9, x10, x11, x37, x188000, x188001, x188002 => if x37 = true then (some 2) else (if x3 = 0 then (currency_Validate.l0 k x0 x9 x10 (wrap64 (x11 + 1))) else (if 0 ≤ (wrap64 (x3 - 1)) then (if (wrap64 (x3 - 1)) < (x0.length : Int) then (if (Op.bytesLess (((rd_T61 x0 (wrap64 (x3 - 1))).f0).toList) x188000.toList) = true then (if ((rd_T61 x0 (wrap64 (x3 - 1))).f0).toList = x188000.toList then (if ((rd_T61 x0 (wrap64 (x3 - 1))).f1) ≥ x188001 then (some 9) else (currency_Validate.l0 k x0 x9 x10 (wrap64 (x11 + 1)))) else (currency_Validate.l0 k x0 x9 x10 (wrap64 (x11 + 1)))) else (if ((rd_T61 x0 (wrap64 (x3 - 1))).f0).toList = x188000.toList then (if ((rd_T61 x0 (wrap64 (x3 - 1))).f1) ≥ x188001 then (some 9) else (currency_Validate.l0 k x0 x9 x10 (wrap64 (x11 + 1)))) else (some 9))) else (none)) else (none)))
end
def currency_Validate.f (k : Nat) (l0 : List (S61)) : Option (Int) := if (l0.length : Int) > 1000 then (some 8) else (currency_Validate.l0 k l0 l0 (l0.length : Int) 0)
set_option maxHeartbeats 8000000 in
set_option maxRecDepth 100000 in
theorem currency_Validate.calls (k : Nat) (A0 : Option Addr) (c0 : Nat) (l0 : List (S61)) (r : Int) (w : World) (hr0 : Kd.C k61 w A0 l0.length l0) (hc0 : l0.length ≤ c0) (h : currency_Validate.f k l0 = some r) :
   Calls Try.prog 58 #[.slice A0 l0.length c0] w fun e w' => e = .returned (.int .i64 r) ∧ Below w.heap.size w w' := by
  have hu61 := Try.underlying61
  have HR0 := Aside0.mk hr0
  have HC0 := Aside0.mk hc0
  clear hr0 hc0
  have HB := Aside0.mk (Below.refl w.heap.size w)
  have H : (if (l0.length : Int) > 1000 then (some 8) else (currency_Validate.l0 k l0 l0 (l0.length : Int) 0)) = some r := h
  clear h
  by_cases c2 : (l0.length : Int) > 1000
  ·rw [if_pos c2] at H
   have c2b0 : decide (1000 < (l0.length : Int)) = true := decide_eq_true c2
   have c2b1 : decide (1000 < l0.length) = true := decide_eq_true (by omega)
   clear c2
   obtain rfl := Option.some.inj H
   simp only [Option.some.injEq, Prod.mk.injEq] at H
   obtain ⟨rfl⟩ := H
   go_enter Try.func58, Try.ntmps58
   go_wp2
   go_ret
   exact ⟨by first | rfl | (simp [errW_none, errW_some] <;> rfl) | (simp [*, errW_none, errW_some] <;> rfl) | (simp (disch := first | assumption | omega) only [Int.tdiv_eq_ediv_of_nonneg, Int.tmod_eq_emod_of_nonneg]; rfl), aH HB⟩
  ·rw [if_neg c2] at H
   have c2b0 : decide (1000 < (l0.length : Int)) = false := decide_eq_false c2
   have c2b1 : decide (1000 < l0.length) = false := decide_eq_false (by omega)
   clear c2
   have H' := Aside0.mk H
   clear H
   go_enter Try.func58, Try.ntmps58
   go_wp2
   go_loopg [11] k (fun kq v11 w' => ∃ (x11_1 : Int), v11 = .int .i64 x11_1 ∧ Aside0 (currency_Validate.l0 kq l0 l0 (l0.length : Int) x11_1 = some r) ∧ Aside0 (kq ≤ k) ∧ Aside0 (Below w.heap.size w w'))
   case atStart => exact ⟨(0), (by first | rfl | (simp; done) | (simp [*]; done)), H', ⟨Nat.le_refl _⟩, ⟨aH HB⟩⟩
   case round =>
    clear H'
    try clear c2
    try clear c2b0
    try clear c2b1
    try clear p2
    obtain ⟨x11_1, rfl, HA, HK1, HB⟩ := hrel
    cases gk with
    | zero => exact absurd HA.out (by simp [currency_Validate.l0])
    | succ k1 =>
     have H := HA.out
     clear HA
     simp only [currency_Validate.l0] at H
     by_cases c3 : x11_1 < (l0.length : Int)
     ·rw [if_pos c3] at H
      have c3b0 : decide (x11_1 < (l0.length : Int)) = true := decide_eq_true c3
      clear c3
      by_cases c4 : 0 ≤ x11_1
      ·rw [if_pos c4] at H
       have c4b0 : decide (0 ≤ x11_1) = true := decide_eq_true c4
       clear c4
       by_cases c5 : x11_1 < (l0.length : Int)
       ·rw [if_pos c5] at H
        have c5b0 : decide (x11_1 < (l0.length : Int)) = true := decide_eq_true c5
        clear c5
        replace H := Option.bind_eq_some_iff.mp H
        obtain ⟨t188, A60, H⟩ := H
        replace H : (if t188 = true then (if ((rd_T61 l0 x11_1).f1) < 0 then (currency_Validate.j1 k1 l0 x11_1 l0 (l0.length : Int) x11_1 true ((rd_T61 l0 x11_1).f0) ((rd_T61 l0 x11_1).f1) ((rd_T61 l0 x11_1).f2)) else (if ((rd_T61 l0 x11_1).f1) > 36524 then (currency_Validate.j1 k1 l0 x11_1 l0 (l0.length : Int) x11_1 true ((rd_T61 l0 x11_1).f0) ((rd_T61 l0 x11_1).f1) ((rd_T61 l0 x11_1).f2)) else (if ((rd_T61 l0 x11_1).f2) < 1 then (currency_Validate.j1 k1 l0 x11_1 l0 (l0.length : Int) x11_1 true ((rd_T61 l0 x11_1).f0) ((rd_T61 l0 x11_1).f1) ((rd_T61 l0 x11_1).f2)) else (currency_Validate.j1 k1 l0 x11_1 l0 (l0.length : Int) x11_1 (decide (((rd_T61 l0 x11_1).f2) > 1000000000)) ((rd_T61 l0 x11_1).f0) ((rd_T61 l0 x11_1).f1) ((rd_T61 l0 x11_1).f2))))) else (some 1)) = some r := H
        have A6 := Aside0.mk A60
        clear A60
        by_cases c7 : t188 = true
        ·subst c7
         have H1 : (if ((rd_T61 l0 x11_1).f1) < 0 then (currency_Validate.j1 k1 l0 x11_1 l0 (l0.length : Int) x11_1 true ((rd_T61 l0 x11_1).f0) ((rd_T61 l0 x11_1).f1) ((rd_T61 l0 x11_1).f2)) else (if ((rd_T61 l0 x11_1).f1) > 36524 then (currency_Validate.j1 k1 l0 x11_1 l0 (l0.length : Int) x11_1 true ((rd_T61 l0 x11_1).f0) ((rd_T61 l0 x11_1).f1) ((rd_T61 l0 x11_1).f2)) else (if ((rd_T61 l0 x11_1).f2) < 1 then (currency_Validate.j1 k1 l0 x11_1 l0 (l0.length : Int) x11_1 true ((rd_T61 l0 x11_1).f0) ((rd_T61 l0 x11_1).f1) ((rd_T61 l0 x11_1).f2)) else (currency_Validate.j1 k1 l0 x11_1 l0 (l0.length : Int) x11_1 (decide (((rd_T61 l0 x11_1).f2) > 1000000000)) ((rd_T61 l0 x11_1).f0) ((rd_T61 l0 x11_1).f1) ((rd_T61 l0 x11_1).f2))))) = some r := by rw [if_pos rfl] at H; exact H
         clear H
         have H := H1
         clear H1
         have HC8 := Aside0.mk H
         clear H
         have p186 : 0 ≤ (x11_1 : Int) := of_decide_eq_true (by first | (with_reducible assumption) | assumption)
         have q186 : x11_1 < (l0.length : Int) := of_decide_eq_true (by first | (with_reducible assumption) | assumption)
         obtain ⟨ad186, e186, hx186_0, hx186_1, hx186_2⟩ := at_T61 HR0.out x11_1 p186 q186
         cases e186
         replace hx186_0 := (HB.out.cell (World.block_lt_of_cell? w _ hx186_0)).trans hx186_0
         replace hx186_1 := (HB.out.cell (World.block_lt_of_cell? w _ hx186_1)).trans hx186_1
         replace hx186_2 := (HB.out.cell (World.block_lt_of_cell? w _ hx186_2)).trans hx186_2
         replace p186 := eq_true p186
         replace q186 := eq_true q186
         go_upto_region 8 with (first | ((with_reducible refine gate_dst (N := 4) rfl ?_); refine boxA (N := 4) (cs := #[.string (⟨#[]⟩ : ByteArray), .int .i64 0, .int .i64 0]) (t := 61) ?_; intro gb187 hg w9 hbox hb; have n0_ := hB HB hb; have n1_ := Aside0.mk (hbox); have n2_ := gW hg HB; have n3_ := gW hg HB; clear HB; have HB := n0_; have BK187 := n1_; have GW187 := n2_; have GE187 := n3_; clear n0_ n1_ n2_ n3_; clear hb hbox hg; have hcz10_0 : w9.cell? ⟨gb187, 0, none⟩ = some (.string (⟨#[]⟩ : ByteArray)) := lc BK187 0; have hcz10_1 : w9.cell? ⟨gb187, 1, none⟩ = some (.int .i64 0) := lc BK187 1; have hcz10_2 : w9.cell? ⟨gb187, 2, none⟩ = some (.int .i64 0) := lc BK187 2; have hfz10_0 := fz BK187 0; have hfz10_1 := fz BK187 1; have hfz10_2 := fz BK187 2) | ((with_reducible refine gate_callee (f := 66) rfl ?_); refine goA (some 18) Try.func66 #[.string ((rd_T61 l0 x11_1).f0)] ?_; (with_reducible refine (currency_valid.calls k1 ((rd_T61 l0 x11_1).f0) true _ A6.out).mono ?_); rintro e w' ⟨rfl, ⟨nd, rfl⟩⟩; refine ⟨_, rfl, ?_⟩))
         (try simp only [Act.put, List.setIfInBounds_toArray, List.set_cons_zero, List.set_cons_succ])
         go_cut [37] (fun v37 wc => ∃ (kq : Nat) (x37_7 : Bool), v37 = .bool x37_7 ∧ Aside0 (currency_Validate.j1 kq l0 x11_1 l0 (l0.length : Int) x11_1 x37_7 ((rd_T61 l0 x11_1).f0) ((rd_T61 l0 x11_1).f1) ((rd_T61 l0 x11_1).f2) = some r) ∧ Aside0 (kq ≤ k1) ∧ Aside0 (wc.heap[gb187]? = some (.cells #[.string ((rd_T61 l0 x11_1).f0), .int .i64 ((rd_T61 l0 x11_1).f1), .int .i64 ((rd_T61 l0 x11_1).f2)] 61 (0, 0))) ∧ Aside0 (Below w.heap.size w wc))
         case first =>
          have H := HC8.out
          clear HC8
          by_cases c11 : ((rd_T61 l0 x11_1).f1) < 0
          ·rw [if_pos c11] at H
           have c11b0 : decide (((rd_T61 l0 x11_1).f1) < 0) = true := decide_eq_true c11
           clear c11
           (first | rw [c11b0] | (simp only [i64_w, i32_w]; rw [c11b0]) | skip)
           have H' := Aside0.mk H
           clear H
           have hcz12_0 : w9.cell? ⟨gb187, 0, none⟩ = some (.string (⟨#[]⟩ : ByteArray)) := lc BK187 0
           have hcz12_1 : w9.cell? ⟨gb187, 1, none⟩ = some (.int .i64 0) := lc BK187 1
           have hcz12_2 : w9.cell? ⟨gb187, 2, none⟩ = some (.int .i64 0) := lc BK187 2
           have hfz12_0 := fz BK187 0
           have hfz12_1 := fz BK187 1
           have hfz12_2 := fz BK187 2
           go_wp2
           go_meet
           case rel => exact ⟨_, (true), (by first | rfl | (simp; done) | (simp [*]; done)), H', ⟨by have := HK1.out; first | omega | exact Nat.le_refl _⟩, ⟨by (with_reducible repeat (first | refine blk_drewN ?_ _ | refine blk_drew ?_ | refine blk_alloc ?_ _)); refine blk_put (cs := #[.string ((rd_T61 l0 x11_1).f0), .int .i64 ((rd_T61 l0 x11_1).f1), .int .i64 0]) ?_ 2 _ rfl; (with_reducible repeat (first | refine blk_drewN ?_ _ | refine blk_drew ?_ | refine blk_alloc ?_ _)); refine blk_put (cs := #[.string ((rd_T61 l0 x11_1).f0), .int .i64 0, .int .i64 0]) ?_ 1 _ rfl; (with_reducible repeat (first | refine blk_drewN ?_ _ | refine blk_drew ?_ | refine blk_alloc ?_ _)); refine blk_put (cs := #[.string (⟨#[]⟩ : ByteArray), .int .i64 0, .int .i64 0]) ?_ 0 _ rfl; (with_reducible repeat (first | refine blk_drewN ?_ _ | refine blk_drew ?_ | refine blk_alloc ?_ _)); exact BK187.out⟩, ⟨aH HB⟩⟩
          ·rw [if_neg c11] at H
           have c11b0 : decide (((rd_T61 l0 x11_1).f1) < 0) = false := decide_eq_false c11
           clear c11
           (first | rw [c11b0] | (simp only [i64_w, i32_w]; rw [c11b0]) | skip)
           by_cases c13 : ((rd_T61 l0 x11_1).f1) > 36524
           ·rw [if_pos c13] at H
            have c13b0 : decide (36524 < ((rd_T61 l0 x11_1).f1)) = true := decide_eq_true c13
            clear c13
            have H' := Aside0.mk H
            clear H
            have hcz14_0 : w9.cell? ⟨gb187, 0, none⟩ = some (.string (⟨#[]⟩ : ByteArray)) := lc BK187 0
            have hcz14_1 : w9.cell? ⟨gb187, 1, none⟩ = some (.int .i64 0) := lc BK187 1
            have hcz14_2 : w9.cell? ⟨gb187, 2, none⟩ = some (.int .i64 0) := lc BK187 2
            have hfz14_0 := fz BK187 0
            have hfz14_1 := fz BK187 1
            have hfz14_2 := fz BK187 2
            go_wp2
            go_meet
            case rel => exact ⟨_, (true), (by first | rfl | (simp; done) | (simp [*]; done)), H', ⟨by have := HK1.out; first | omega | exact Nat.le_refl _⟩, ⟨by (with_reducible repeat (first | refine blk_drewN ?_ _ | refine blk_drew ?_ | refine blk_alloc ?_ _)); refine blk_put (cs := #[.string ((rd_T61 l0 x11_1).f0), .int .i64 ((rd_T61 l0 x11_1).f1), .int .i64 0]) ?_ 2 _ rfl; (with_reducible repeat (first | refine blk_drewN ?_ _ | refine blk_drew ?_ | refine blk_alloc ?_ _)); refine blk_put (cs := #[.string ((rd_T61 l0 x11_1).f0), .int .i64 0, .int .i64 0]) ?_ 1 _ rfl; (with_reducible repeat (first | refine blk_drewN ?_ _ | refine blk_drew ?_ | refine blk_alloc ?_ _)); refine blk_put (cs := #[.string (⟨#[]⟩ : ByteArray), .int .i64 0, .int .i64 0]) ?_ 0 _ rfl; (with_reducible repeat (first | refine blk_drewN ?_ _ | refine blk_drew ?_ | refine blk_alloc ?_ _)); exact BK187.out⟩, ⟨aH HB⟩⟩
           ·rw [if_neg c13] at H
            have c13b0 : decide (36524 < ((rd_T61 l0 x11_1).f1)) = false := decide_eq_false c13
            clear c13
            by_cases c15 : ((rd_T61 l0 x11_1).f2) < 1
            ·rw [if_pos c15] at H
             have c15b0 : decide (((rd_T61 l0 x11_1).f2) < 1) = true := decide_eq_true c15
             clear c15
             have H' := Aside0.mk H
             clear H
             have hcz16_0 : w9.cell? ⟨gb187, 0, none⟩ = some (.string (⟨#[]⟩ : ByteArray)) := lc BK187 0
             have hcz16_1 : w9.cell? ⟨gb187, 1, none⟩ = some (.int .i64 0) := lc BK187 1
             have hcz16_2 : w9.cell? ⟨gb187, 2, none⟩ = some (.int .i64 0) := lc BK187 2
             have hfz16_0 := fz BK187 0
             have hfz16_1 := fz BK187 1
             have hfz16_2 := fz BK187 2
             go_wp2
             go_meet
             case rel => exact ⟨_, (true), (by first | rfl | (simp; done) | (simp [*]; done)), H', ⟨by have := HK1.out; first | omega | exact Nat.le_refl _⟩, ⟨by (with_reducible repeat (first | refine blk_drewN ?_ _ | refine blk_drew ?_ | refine blk_alloc ?_ _)); refine blk_put (cs := #[.string ((rd_T61 l0 x11_1).f0), .int .i64 ((rd_T61 l0 x11_1).f1), .int .i64 0]) ?_ 2 _ rfl; (with_reducible repeat (first | refine blk_drewN ?_ _ | refine blk_drew ?_ | refine blk_alloc ?_ _)); refine blk_put (cs := #[.string ((rd_T61 l0 x11_1).f0), .int .i64 0, .int .i64 0]) ?_ 1 _ rfl; (with_reducible repeat (first | refine blk_drewN ?_ _ | refine blk_drew ?_ | refine blk_alloc ?_ _)); refine blk_put (cs := #[.string (⟨#[]⟩ : ByteArray), .int .i64 0, .int .i64 0]) ?_ 0 _ rfl; (with_reducible repeat (first | refine blk_drewN ?_ _ | refine blk_drew ?_ | refine blk_alloc ?_ _)); exact BK187.out⟩, ⟨aH HB⟩⟩
            ·rw [if_neg c15] at H
             have c15b0 : decide (((rd_T61 l0 x11_1).f2) < 1) = false := decide_eq_false c15
             clear c15
             have H' := Aside0.mk H
             clear H
             have hcz17_0 : w9.cell? ⟨gb187, 0, none⟩ = some (.string (⟨#[]⟩ : ByteArray)) := lc BK187 0
             have hcz17_1 : w9.cell? ⟨gb187, 1, none⟩ = some (.int .i64 0) := lc BK187 1
             have hcz17_2 : w9.cell? ⟨gb187, 2, none⟩ = some (.int .i64 0) := lc BK187 2
             have hfz17_0 := fz BK187 0
             have hfz17_1 := fz BK187 1
             have hfz17_2 := fz BK187 2
             go_wp2
             go_meet
             case rel => exact ⟨_, (decide (((rd_T61 l0 x11_1).f2) > 1000000000)), (by first | rfl | (simp; done) | (simp [*]; done)), H', ⟨by have := HK1.out; first | omega | exact Nat.le_refl _⟩, ⟨by (with_reducible repeat (first | refine blk_drewN ?_ _ | refine blk_drew ?_ | refine blk_alloc ?_ _)); refine blk_put (cs := #[.string ((rd_T61 l0 x11_1).f0), .int .i64 ((rd_T61 l0 x11_1).f1), .int .i64 0]) ?_ 2 _ rfl; (with_reducible repeat (first | refine blk_drewN ?_ _ | refine blk_drew ?_ | refine blk_alloc ?_ _)); refine blk_put (cs := #[.string ((rd_T61 l0 x11_1).f0), .int .i64 0, .int .i64 0]) ?_ 1 _ rfl; (with_reducible repeat (first | refine blk_drewN ?_ _ | refine blk_drew ?_ | refine blk_alloc ?_ _)); refine blk_put (cs := #[.string (⟨#[]⟩ : ByteArray), .int .i64 0, .int .i64 0]) ?_ 0 _ rfl; (with_reducible repeat (first | refine blk_drewN ?_ _ | refine blk_drew ?_ | refine blk_alloc ?_ _)); exact BK187.out⟩, ⟨aH HB⟩⟩
         case rest =>
          clear HC8
          try clear c1
          try clear p1
          try clear q1
          try clear hx1
          try clear c2
          try clear c2b0
          try clear c2b1
          try clear p2
          try clear c3
          try clear c3b0
          try clear c4
          try clear c4b0
          try clear c5
          try clear c5b0
          try clear c6
          try clear c7
          try clear c11
          try clear c11b0
          try clear c13
          try clear c13b0
          try clear c15
          try clear c15b0
          try clear hcz10_0
          try clear hcz10_1
          try clear hcz10_2
          try clear hcz12_0
          try clear hcz12_1
          try clear hcz12_2
          try clear hcz14_0
          try clear hcz14_1
          try clear hcz14_2
          try clear hcz16_0
          try clear hcz16_1
          try clear hcz16_2
          try clear hcz17_0
          try clear hcz17_1
          try clear hcz17_2
          try clear hfz10_0
          try clear hfz10_1
          try clear hfz10_2
          try clear hfz12_0
          try clear hfz12_1
          try clear hfz12_2
          try clear hfz14_0
          try clear hfz14_1
          try clear hfz14_2
          try clear hfz16_0
          try clear hfz16_1
          try clear hfz16_2
          try clear hfz17_0
          try clear hfz17_1
          try clear hfz17_2
          try clear hx186_0
          try clear hx186_1
          try clear hx186_2
          try clear p186
          try clear p2
          try clear q186
          obtain ⟨kq, x37_7, rfl, HA, HJ7, BK187, HB⟩ := hcut
          cases kq with
          | zero => exact absurd HA.out (by simp [currency_Validate.j1])
          | succ kj7 =>
           have H := HA.out
           clear HA
           simp only [currency_Validate.j1] at H
           by_cases c18 : x37_7 = true
           ·subst c18
            have H1 : (some 2) = some r := by rw [if_pos rfl] at H; exact H
            clear H
            have H := H1
            clear H1
            obtain rfl := Option.some.inj H
            simp only [Option.some.injEq, Prod.mk.injEq] at H
            obtain ⟨rfl⟩ := H
            go_wp2
            go_ret
            exact ⟨by first | rfl | (simp [errW_none, errW_some] <;> rfl) | (simp [*, errW_none, errW_some] <;> rfl) | (simp (disch := first | assumption | omega) only [Int.tdiv_eq_ediv_of_nonneg, Int.tmod_eq_emod_of_nonneg]; rfl), aH HB⟩
           ·replace c18 := Bool.eq_false_iff.mpr c18
            subst c18
            have H1 : (if x11_1 = 0 then (currency_Validate.l0 kj7 l0 l0 (l0.length : Int) (wrap64 (x11_1 + 1))) else (if 0 ≤ (wrap64 (x11_1 - 1)) then (if (wrap64 (x11_1 - 1)) < (l0.length : Int) then (if (Op.bytesLess (((rd_T61 l0 (wrap64 (x11_1 - 1))).f0).toList) ((rd_T61 l0 x11_1).f0).toList) = true then (if ((rd_T61 l0 (wrap64 (x11_1 - 1))).f0).toList = ((rd_T61 l0 x11_1).f0).toList then (if ((rd_T61 l0 (wrap64 (x11_1 - 1))).f1) ≥ ((rd_T61 l0 x11_1).f1) then (some 9) else (currency_Validate.l0 kj7 l0 l0 (l0.length : Int) (wrap64 (x11_1 + 1)))) else (currency_Validate.l0 kj7 l0 l0 (l0.length : Int) (wrap64 (x11_1 + 1)))) else (if ((rd_T61 l0 (wrap64 (x11_1 - 1))).f0).toList = ((rd_T61 l0 x11_1).f0).toList then (if ((rd_T61 l0 (wrap64 (x11_1 - 1))).f1) ≥ ((rd_T61 l0 x11_1).f1) then (some 9) else (currency_Validate.l0 kj7 l0 l0 (l0.length : Int) (wrap64 (x11_1 + 1)))) else (some 9))) else (none)) else (none))) = some r := by rw [if_neg (show ¬ (false = true) by decide)] at H; exact H
            clear H
            have H := H1
            clear H1
            by_cases c19 : x11_1 = 0
            ·rw [if_pos c19] at H
             have c19b0 : (x11_1 == 0) = true := beq_iff_eq.mpr c19
             have c19b1 : (x11_1 != 0) = false := bne_eq_false_iff_eq.mpr c19
             clear c19
             have H' := Aside0.mk H
             clear H
             go_wp2
             go_roundg kj7
             case measure => have := HK1.out; have := HJ7.out; omega
             case rel => exact ⟨(wrap64 (x11_1 + 1)), (by first | rfl | (simp; done) | (simp [*]; done)), H', ⟨by have := HK1.out; have := HJ7.out; omega⟩, ⟨aH HB⟩⟩
            ·rw [if_neg c19] at H
             have c19b0 : (x11_1 == 0) = false := beq_eq_false_iff_ne.mpr c19
             have c19b1 : (x11_1 != 0) = true := bne_iff_ne.mpr c19
             obtain ⟨ji20, hji20⟩ : ∃ j_ : Int, (wrap64 (x11_1 - 1)) = j_ := ⟨_, rfl⟩
             replace H : (if 0 ≤ (ji20) then (if (ji20) < (l0.length : Int) then (if (Op.bytesLess (((rd_T61 l0 (ji20)).f0).toList) ((rd_T61 l0 x11_1).f0).toList) = true then (if ((rd_T61 l0 (ji20)).f0).toList = ((rd_T61 l0 x11_1).f0).toList then (if ((rd_T61 l0 (ji20)).f1) ≥ ((rd_T61 l0 x11_1).f1) then (some 9) else (currency_Validate.l0 kj7 l0 l0 (l0.length : Int) (wrap64 (x11_1 + 1)))) else (currency_Validate.l0 kj7 l0 l0 (l0.length : Int) (wrap64 (x11_1 + 1)))) else (if ((rd_T61 l0 (ji20)).f0).toList = ((rd_T61 l0 x11_1).f0).toList then (if ((rd_T61 l0 (ji20)).f1) ≥ ((rd_T61 l0 x11_1).f1) then (some 9) else (currency_Validate.l0 kj7 l0 l0 (l0.length : Int) (wrap64 (x11_1 + 1)))) else (some 9))) else (none)) else (none)) = some r := by first | (rw [hji20] at H; exact H) | (simp only [hji20] at H ⊢; exact H)
             have hji20w : (IntKind.i64.wrap (x11_1 - 1)) = ji20 := (i64_w _).trans hji20
             by_cases c21 : 0 ≤ (ji20)
             ·rw [if_pos c21] at H
              have c21b0 : decide (0 ≤ (ji20)) = true := decide_eq_true c21
              clear c21
              by_cases c22 : (ji20) < (l0.length : Int)
              ·rw [if_pos c22] at H
               have c22b0 : decide ((ji20) < (l0.length : Int)) = true := decide_eq_true c22
               clear c22
               by_cases c23 : (Op.bytesLess (((rd_T61 l0 (ji20)).f0).toList) ((rd_T61 l0 x11_1).f0).toList) = true
               ·rw [if_pos c23] at H
                have c23b0 : (Op.bytesLess (((rd_T61 l0 (ji20)).f0).toList) ((rd_T61 l0 x11_1).f0).toList) = true := c23
                clear c23
                by_cases c24 : ((rd_T61 l0 (ji20)).f0).toList = ((rd_T61 l0 x11_1).f0).toList
                ·rw [if_pos c24] at H
                 have c24b0 : (((rd_T61 l0 (ji20)).f0).toList == ((rd_T61 l0 x11_1).f0).toList) = true := beq_iff_eq.mpr c24
                 have c24b1 : (((rd_T61 l0 (ji20)).f0).toList != ((rd_T61 l0 x11_1).f0).toList) = false := bne_eq_false_iff_eq.mpr c24
                 clear c24
                 by_cases c25 : ((rd_T61 l0 (ji20)).f1) ≥ ((rd_T61 l0 x11_1).f1)
                 ·rw [if_pos c25] at H
                  have c25b0 : decide (((rd_T61 l0 x11_1).f1) ≤ ((rd_T61 l0 (ji20)).f1)) = true := decide_eq_true c25
                  clear c25
                  obtain rfl := Option.some.inj H
                  simp only [Option.some.injEq, Prod.mk.injEq] at H
                  obtain ⟨rfl⟩ := H
                  have p189 : 0 ≤ ((ji20) : Int) := of_decide_eq_true (by first | (with_reducible assumption) | assumption)
                  have q189 : (ji20) < (l0.length : Int) := of_decide_eq_true (by first | (with_reducible assumption) | assumption)
                  obtain ⟨ad189, e189, hx189_0, hx189_1, hx189_2⟩ := at_T61 HR0.out (ji20) p189 q189
                  obtain rfl : ad186 = ad189 := (by injection e189)
                  replace hx189_0 := (HB.out.cell (World.block_lt_of_cell? w _ hx189_0)).trans hx189_0
                  replace hx189_1 := (HB.out.cell (World.block_lt_of_cell? w _ hx189_1)).trans hx189_1
                  replace hx189_2 := (HB.out.cell (World.block_lt_of_cell? w _ hx189_2)).trans hx189_2
                  replace p189 := eq_true p189
                  replace q189 := eq_true q189
                  go_wp2_with (first | ((with_reducible refine gate_dst (N := 5) rfl ?_); refine boxA (N := 5) (cs := #[.string (⟨#[]⟩ : ByteArray), .int .i64 0, .int .i64 0]) (t := 61) ?_; intro gb190 hg w26 hbox hb; have n0_ := bB BK187 hb; have n1_ := hB HB hb; have n2_ := Aside0.mk (hbox); have n3_ := gW hg HB; have n4_ := gW hg HB; have n5_ := nL hg BK187; have n6_ := nG hg BK187; clear BK187; clear HB; have BK187 := n0_; have HB := n1_; have BK190 := n2_; have GW190 := n3_; have GE190 := n4_; have NB187_190 := n5_; have NB190_187 := n6_; clear n0_ n1_ n2_ n3_ n4_ n5_ n6_; clear hb hbox hg; have hnb27 := NB190_187.out; have hnc27 := NB187_190.out; have hcz28_0 : w26.cell? ⟨gb190, 0, none⟩ = some (.string (⟨#[]⟩ : ByteArray)) := lc BK190 0; have hcz28_1 : w26.cell? ⟨gb190, 1, none⟩ = some (.int .i64 0) := lc BK190 1; have hcz28_2 : w26.cell? ⟨gb190, 2, none⟩ = some (.int .i64 0) := lc BK190 2; have hfz28_0 := fz BK190 0; have hfz28_1 := fz BK190 1; have hfz28_2 := fz BK190 2; have hcz29_0 : w26.cell? ⟨gb187, 0, none⟩ = some (.string ((rd_T61 l0 x11_1).f0)) := lc BK187 0; have hcz29_1 : w26.cell? ⟨gb187, 1, none⟩ = some (.int .i64 ((rd_T61 l0 x11_1).f1)) := lc BK187 1; have hcz29_2 : w26.cell? ⟨gb187, 2, none⟩ = some (.int .i64 ((rd_T61 l0 x11_1).f2)) := lc BK187 2; have hfz29_0 := fz BK187 0; have hfz29_1 := fz BK187 1; have hfz29_2 := fz BK187 2))
                  go_ret
                  exact ⟨by first | rfl | (simp [errW_none, errW_some] <;> rfl) | (simp only [← hji20]; first | rfl | (simp [errW_none, errW_some] <;> rfl)) | (simp [*, errW_none, errW_some] <;> rfl) | (simp (disch := first | assumption | omega) only [Int.tdiv_eq_ediv_of_nonneg, Int.tmod_eq_emod_of_nonneg]; rfl), aH HB⟩
                 ·rw [if_neg c25] at H
                  have c25b0 : decide (((rd_T61 l0 x11_1).f1) ≤ ((rd_T61 l0 (ji20)).f1)) = false := decide_eq_false c25
                  clear c25
                  have H' := Aside0.mk H
                  clear H
                  have p189 : 0 ≤ ((ji20) : Int) := of_decide_eq_true (by first | (with_reducible assumption) | assumption)
                  have q189 : (ji20) < (l0.length : Int) := of_decide_eq_true (by first | (with_reducible assumption) | assumption)
                  obtain ⟨ad189, e189, hx189_0, hx189_1, hx189_2⟩ := at_T61 HR0.out (ji20) p189 q189
                  obtain rfl : ad186 = ad189 := (by injection e189)
                  replace hx189_0 := (HB.out.cell (World.block_lt_of_cell? w _ hx189_0)).trans hx189_0
                  replace hx189_1 := (HB.out.cell (World.block_lt_of_cell? w _ hx189_1)).trans hx189_1
                  replace hx189_2 := (HB.out.cell (World.block_lt_of_cell? w _ hx189_2)).trans hx189_2
                  replace p189 := eq_true p189
                  replace q189 := eq_true q189
                  go_wp2_with (first | ((with_reducible refine gate_dst (N := 5) rfl ?_); refine boxA (N := 5) (cs := #[.string (⟨#[]⟩ : ByteArray), .int .i64 0, .int .i64 0]) (t := 61) ?_; intro gb190 hg w30 hbox hb; have n0_ := bB BK187 hb; have n1_ := hB HB hb; have n2_ := Aside0.mk (hbox); have n3_ := gW hg HB; have n4_ := gW hg HB; have n5_ := nL hg BK187; have n6_ := nG hg BK187; clear BK187; clear HB; have BK187 := n0_; have HB := n1_; have BK190 := n2_; have GW190 := n3_; have GE190 := n4_; have NB187_190 := n5_; have NB190_187 := n6_; clear n0_ n1_ n2_ n3_ n4_ n5_ n6_; clear hb hbox hg; have hnb31 := NB190_187.out; have hnc31 := NB187_190.out; have hcz32_0 : w30.cell? ⟨gb190, 0, none⟩ = some (.string (⟨#[]⟩ : ByteArray)) := lc BK190 0; have hcz32_1 : w30.cell? ⟨gb190, 1, none⟩ = some (.int .i64 0) := lc BK190 1; have hcz32_2 : w30.cell? ⟨gb190, 2, none⟩ = some (.int .i64 0) := lc BK190 2; have hfz32_0 := fz BK190 0; have hfz32_1 := fz BK190 1; have hfz32_2 := fz BK190 2; have hcz33_0 : w30.cell? ⟨gb187, 0, none⟩ = some (.string ((rd_T61 l0 x11_1).f0)) := lc BK187 0; have hcz33_1 : w30.cell? ⟨gb187, 1, none⟩ = some (.int .i64 ((rd_T61 l0 x11_1).f1)) := lc BK187 1; have hcz33_2 : w30.cell? ⟨gb187, 2, none⟩ = some (.int .i64 ((rd_T61 l0 x11_1).f2)) := lc BK187 2; have hfz33_0 := fz BK187 0; have hfz33_1 := fz BK187 1; have hfz33_2 := fz BK187 2))
                  go_roundg kj7
                  case measure => have := HK1.out; have := HJ7.out; omega
                  case rel => exact ⟨(wrap64 (x11_1 + 1)), (by first | rfl | (simp; done) | (simp [*]; done)), H', ⟨by have := HK1.out; have := HJ7.out; omega⟩, ⟨aH HB⟩⟩
                ·rw [if_neg c24] at H
                 have c24b0 : (((rd_T61 l0 (ji20)).f0).toList == ((rd_T61 l0 x11_1).f0).toList) = false := beq_eq_false_iff_ne.mpr c24
                 have c24b1 : (((rd_T61 l0 (ji20)).f0).toList != ((rd_T61 l0 x11_1).f0).toList) = true := bne_iff_ne.mpr c24
                 have H' := Aside0.mk H
                 clear H
                 have p189 : 0 ≤ ((ji20) : Int) := of_decide_eq_true (by first | (with_reducible assumption) | assumption)
                 have q189 : (ji20) < (l0.length : Int) := of_decide_eq_true (by first | (with_reducible assumption) | assumption)
                 obtain ⟨ad189, e189, hx189_0, hx189_1, hx189_2⟩ := at_T61 HR0.out (ji20) p189 q189
                 obtain rfl : ad186 = ad189 := (by injection e189)
                 replace hx189_0 := (HB.out.cell (World.block_lt_of_cell? w _ hx189_0)).trans hx189_0
                 replace hx189_1 := (HB.out.cell (World.block_lt_of_cell? w _ hx189_1)).trans hx189_1
                 replace hx189_2 := (HB.out.cell (World.block_lt_of_cell? w _ hx189_2)).trans hx189_2
                 replace p189 := eq_true p189
                 replace q189 := eq_true q189
                 go_wp2_with (first | ((with_reducible refine gate_dst (N := 5) rfl ?_); refine boxA (N := 5) (cs := #[.string (⟨#[]⟩ : ByteArray), .int .i64 0, .int .i64 0]) (t := 61) ?_; intro gb190 hg w34 hbox hb; have n0_ := bB BK187 hb; have n1_ := hB HB hb; have n2_ := Aside0.mk (hbox); have n3_ := gW hg HB; have n4_ := gW hg HB; have n5_ := nL hg BK187; have n6_ := nG hg BK187; clear BK187; clear HB; have BK187 := n0_; have HB := n1_; have BK190 := n2_; have GW190 := n3_; have GE190 := n4_; have NB187_190 := n5_; have NB190_187 := n6_; clear n0_ n1_ n2_ n3_ n4_ n5_ n6_; clear hb hbox hg; have hnb35 := NB190_187.out; have hnc35 := NB187_190.out; have hcz36_0 : w34.cell? ⟨gb190, 0, none⟩ = some (.string (⟨#[]⟩ : ByteArray)) := lc BK190 0; have hcz36_1 : w34.cell? ⟨gb190, 1, none⟩ = some (.int .i64 0) := lc BK190 1; have hcz36_2 : w34.cell? ⟨gb190, 2, none⟩ = some (.int .i64 0) := lc BK190 2; have hfz36_0 := fz BK190 0; have hfz36_1 := fz BK190 1; have hfz36_2 := fz BK190 2; have hcz37_0 : w34.cell? ⟨gb187, 0, none⟩ = some (.string ((rd_T61 l0 x11_1).f0)) := lc BK187 0; have hcz37_1 : w34.cell? ⟨gb187, 1, none⟩ = some (.int .i64 ((rd_T61 l0 x11_1).f1)) := lc BK187 1; have hcz37_2 : w34.cell? ⟨gb187, 2, none⟩ = some (.int .i64 ((rd_T61 l0 x11_1).f2)) := lc BK187 2; have hfz37_0 := fz BK187 0; have hfz37_1 := fz BK187 1; have hfz37_2 := fz BK187 2))
                 go_roundg kj7
                 case measure => have := HK1.out; have := HJ7.out; omega
                 case rel => exact ⟨(wrap64 (x11_1 + 1)), (by first | rfl | (simp; done) | (simp [*]; done)), H', ⟨by have := HK1.out; have := HJ7.out; omega⟩, ⟨aH HB⟩⟩
               ·rw [if_neg c23] at H
                have c23b0 : (Op.bytesLess (((rd_T61 l0 (ji20)).f0).toList) ((rd_T61 l0 x11_1).f0).toList) = false := by simpa using c23
                clear c23
                by_cases c38 : ((rd_T61 l0 (ji20)).f0).toList = ((rd_T61 l0 x11_1).f0).toList
                ·rw [if_pos c38] at H
                 have c38b0 : (((rd_T61 l0 (ji20)).f0).toList == ((rd_T61 l0 x11_1).f0).toList) = true := beq_iff_eq.mpr c38
                 have c38b1 : (((rd_T61 l0 (ji20)).f0).toList != ((rd_T61 l0 x11_1).f0).toList) = false := bne_eq_false_iff_eq.mpr c38
                 clear c38
                 by_cases c39 : ((rd_T61 l0 (ji20)).f1) ≥ ((rd_T61 l0 x11_1).f1)
                 ·rw [if_pos c39] at H
                  have c39b0 : decide (((rd_T61 l0 x11_1).f1) ≤ ((rd_T61 l0 (ji20)).f1)) = true := decide_eq_true c39
                  clear c39
                  obtain rfl := Option.some.inj H
                  simp only [Option.some.injEq, Prod.mk.injEq] at H
                  obtain ⟨rfl⟩ := H
                  have p189 : 0 ≤ ((ji20) : Int) := of_decide_eq_true (by first | (with_reducible assumption) | assumption)
                  have q189 : (ji20) < (l0.length : Int) := of_decide_eq_true (by first | (with_reducible assumption) | assumption)
                  obtain ⟨ad189, e189, hx189_0, hx189_1, hx189_2⟩ := at_T61 HR0.out (ji20) p189 q189
                  obtain rfl : ad186 = ad189 := (by injection e189)
                  replace hx189_0 := (HB.out.cell (World.block_lt_of_cell? w _ hx189_0)).trans hx189_0
                  replace hx189_1 := (HB.out.cell (World.block_lt_of_cell? w _ hx189_1)).trans hx189_1
                  replace hx189_2 := (HB.out.cell (World.block_lt_of_cell? w _ hx189_2)).trans hx189_2
                  replace p189 := eq_true p189
                  replace q189 := eq_true q189
                  go_wp2_with (first | ((with_reducible refine gate_dst (N := 5) rfl ?_); refine boxA (N := 5) (cs := #[.string (⟨#[]⟩ : ByteArray), .int .i64 0, .int .i64 0]) (t := 61) ?_; intro gb190 hg w40 hbox hb; have n0_ := bB BK187 hb; have n1_ := hB HB hb; have n2_ := Aside0.mk (hbox); have n3_ := gW hg HB; have n4_ := gW hg HB; have n5_ := nL hg BK187; have n6_ := nG hg BK187; clear BK187; clear HB; have BK187 := n0_; have HB := n1_; have BK190 := n2_; have GW190 := n3_; have GE190 := n4_; have NB187_190 := n5_; have NB190_187 := n6_; clear n0_ n1_ n2_ n3_ n4_ n5_ n6_; clear hb hbox hg; have hnb41 := NB190_187.out; have hnc41 := NB187_190.out; have hcz42_0 : w40.cell? ⟨gb190, 0, none⟩ = some (.string (⟨#[]⟩ : ByteArray)) := lc BK190 0; have hcz42_1 : w40.cell? ⟨gb190, 1, none⟩ = some (.int .i64 0) := lc BK190 1; have hcz42_2 : w40.cell? ⟨gb190, 2, none⟩ = some (.int .i64 0) := lc BK190 2; have hfz42_0 := fz BK190 0; have hfz42_1 := fz BK190 1; have hfz42_2 := fz BK190 2; have hcz43_0 : w40.cell? ⟨gb187, 0, none⟩ = some (.string ((rd_T61 l0 x11_1).f0)) := lc BK187 0; have hcz43_1 : w40.cell? ⟨gb187, 1, none⟩ = some (.int .i64 ((rd_T61 l0 x11_1).f1)) := lc BK187 1; have hcz43_2 : w40.cell? ⟨gb187, 2, none⟩ = some (.int .i64 ((rd_T61 l0 x11_1).f2)) := lc BK187 2; have hfz43_0 := fz BK187 0; have hfz43_1 := fz BK187 1; have hfz43_2 := fz BK187 2))
                  go_ret
                  exact ⟨by first | rfl | (simp [errW_none, errW_some] <;> rfl) | (simp only [← hji20]; first | rfl | (simp [errW_none, errW_some] <;> rfl)) | (simp [*, errW_none, errW_some] <;> rfl) | (simp (disch := first | assumption | omega) only [Int.tdiv_eq_ediv_of_nonneg, Int.tmod_eq_emod_of_nonneg]; rfl), aH HB⟩
                 ·rw [if_neg c39] at H
                  have c39b0 : decide (((rd_T61 l0 x11_1).f1) ≤ ((rd_T61 l0 (ji20)).f1)) = false := decide_eq_false c39
                  clear c39
                  have H' := Aside0.mk H
                  clear H
                  have p189 : 0 ≤ ((ji20) : Int) := of_decide_eq_true (by first | (with_reducible assumption) | assumption)
                  have q189 : (ji20) < (l0.length : Int) := of_decide_eq_true (by first | (with_reducible assumption) | assumption)
                  obtain ⟨ad189, e189, hx189_0, hx189_1, hx189_2⟩ := at_T61 HR0.out (ji20) p189 q189
                  obtain rfl : ad186 = ad189 := (by injection e189)
                  replace hx189_0 := (HB.out.cell (World.block_lt_of_cell? w _ hx189_0)).trans hx189_0
                  replace hx189_1 := (HB.out.cell (World.block_lt_of_cell? w _ hx189_1)).trans hx189_1
                  replace hx189_2 := (HB.out.cell (World.block_lt_of_cell? w _ hx189_2)).trans hx189_2
                  replace p189 := eq_true p189
                  replace q189 := eq_true q189
                  go_wp2_with (first | ((with_reducible refine gate_dst (N := 5) rfl ?_); refine boxA (N := 5) (cs := #[.string (⟨#[]⟩ : ByteArray), .int .i64 0, .int .i64 0]) (t := 61) ?_; intro gb190 hg w44 hbox hb; have n0_ := bB BK187 hb; have n1_ := hB HB hb; have n2_ := Aside0.mk (hbox); have n3_ := gW hg HB; have n4_ := gW hg HB; have n5_ := nL hg BK187; have n6_ := nG hg BK187; clear BK187; clear HB; have BK187 := n0_; have HB := n1_; have BK190 := n2_; have GW190 := n3_; have GE190 := n4_; have NB187_190 := n5_; have NB190_187 := n6_; clear n0_ n1_ n2_ n3_ n4_ n5_ n6_; clear hb hbox hg; have hnb45 := NB190_187.out; have hnc45 := NB187_190.out; have hcz46_0 : w44.cell? ⟨gb190, 0, none⟩ = some (.string (⟨#[]⟩ : ByteArray)) := lc BK190 0; have hcz46_1 : w44.cell? ⟨gb190, 1, none⟩ = some (.int .i64 0) := lc BK190 1; have hcz46_2 : w44.cell? ⟨gb190, 2, none⟩ = some (.int .i64 0) := lc BK190 2; have hfz46_0 := fz BK190 0; have hfz46_1 := fz BK190 1; have hfz46_2 := fz BK190 2; have hcz47_0 : w44.cell? ⟨gb187, 0, none⟩ = some (.string ((rd_T61 l0 x11_1).f0)) := lc BK187 0; have hcz47_1 : w44.cell? ⟨gb187, 1, none⟩ = some (.int .i64 ((rd_T61 l0 x11_1).f1)) := lc BK187 1; have hcz47_2 : w44.cell? ⟨gb187, 2, none⟩ = some (.int .i64 ((rd_T61 l0 x11_1).f2)) := lc BK187 2; have hfz47_0 := fz BK187 0; have hfz47_1 := fz BK187 1; have hfz47_2 := fz BK187 2))
                  go_roundg kj7
                  case measure => have := HK1.out; have := HJ7.out; omega
                  case rel => exact ⟨(wrap64 (x11_1 + 1)), (by first | rfl | (simp; done) | (simp [*]; done)), H', ⟨by have := HK1.out; have := HJ7.out; omega⟩, ⟨aH HB⟩⟩
                ·rw [if_neg c38] at H
                 have c38b0 : (((rd_T61 l0 (ji20)).f0).toList == ((rd_T61 l0 x11_1).f0).toList) = false := beq_eq_false_iff_ne.mpr c38
                 have c38b1 : (((rd_T61 l0 (ji20)).f0).toList != ((rd_T61 l0 x11_1).f0).toList) = true := bne_iff_ne.mpr c38
                 obtain rfl := Option.some.inj H
                 simp only [Option.some.injEq, Prod.mk.injEq] at H
                 obtain ⟨rfl⟩ := H
                 have p189 : 0 ≤ ((ji20) : Int) := of_decide_eq_true (by first | (with_reducible assumption) | assumption)
                 have q189 : (ji20) < (l0.length : Int) := of_decide_eq_true (by first | (with_reducible assumption) | assumption)
                 obtain ⟨ad189, e189, hx189_0, hx189_1, hx189_2⟩ := at_T61 HR0.out (ji20) p189 q189
                 obtain rfl : ad186 = ad189 := (by injection e189)
                 replace hx189_0 := (HB.out.cell (World.block_lt_of_cell? w _ hx189_0)).trans hx189_0
                 replace hx189_1 := (HB.out.cell (World.block_lt_of_cell? w _ hx189_1)).trans hx189_1
                 replace hx189_2 := (HB.out.cell (World.block_lt_of_cell? w _ hx189_2)).trans hx189_2
                 replace p189 := eq_true p189
                 replace q189 := eq_true q189
                 go_wp2_with (first | ((with_reducible refine gate_dst (N := 5) rfl ?_); refine boxA (N := 5) (cs := #[.string (⟨#[]⟩ : ByteArray), .int .i64 0, .int .i64 0]) (t := 61) ?_; intro gb190 hg w48 hbox hb; have n0_ := bB BK187 hb; have n1_ := hB HB hb; have n2_ := Aside0.mk (hbox); have n3_ := gW hg HB; have n4_ := gW hg HB; have n5_ := nL hg BK187; have n6_ := nG hg BK187; clear BK187; clear HB; have BK187 := n0_; have HB := n1_; have BK190 := n2_; have GW190 := n3_; have GE190 := n4_; have NB187_190 := n5_; have NB190_187 := n6_; clear n0_ n1_ n2_ n3_ n4_ n5_ n6_; clear hb hbox hg; have hnb49 := NB190_187.out; have hnc49 := NB187_190.out; have hcz50_0 : w48.cell? ⟨gb190, 0, none⟩ = some (.string (⟨#[]⟩ : ByteArray)) := lc BK190 0; have hcz50_1 : w48.cell? ⟨gb190, 1, none⟩ = some (.int .i64 0) := lc BK190 1; have hcz50_2 : w48.cell? ⟨gb190, 2, none⟩ = some (.int .i64 0) := lc BK190 2; have hfz50_0 := fz BK190 0; have hfz50_1 := fz BK190 1; have hfz50_2 := fz BK190 2; have hcz51_0 : w48.cell? ⟨gb187, 0, none⟩ = some (.string ((rd_T61 l0 x11_1).f0)) := lc BK187 0; have hcz51_1 : w48.cell? ⟨gb187, 1, none⟩ = some (.int .i64 ((rd_T61 l0 x11_1).f1)) := lc BK187 1; have hcz51_2 : w48.cell? ⟨gb187, 2, none⟩ = some (.int .i64 ((rd_T61 l0 x11_1).f2)) := lc BK187 2; have hfz51_0 := fz BK187 0; have hfz51_1 := fz BK187 1; have hfz51_2 := fz BK187 2))
                 go_ret
                 exact ⟨by first | rfl | (simp [errW_none, errW_some] <;> rfl) | (simp only [← hji20]; first | rfl | (simp [errW_none, errW_some] <;> rfl)) | (simp [*, errW_none, errW_some] <;> rfl) | (simp (disch := first | assumption | omega) only [Int.tdiv_eq_ediv_of_nonneg, Int.tmod_eq_emod_of_nonneg]; rfl), aH HB⟩
              ·rw [if_neg c22] at H
               exact absurd H (by simp)
             ·rw [if_neg c21] at H
              exact absurd H (by simp)
        ·replace c7 := Bool.eq_false_iff.mpr c7
         subst c7
         have H1 : (some 1) = some r := by rw [if_neg (show ¬ (false = true) by decide)] at H; exact H
         clear H
         have H := H1
         clear H1
         obtain rfl := Option.some.inj H
         simp only [Option.some.injEq, Prod.mk.injEq] at H
         obtain ⟨rfl⟩ := H
         have p186 : 0 ≤ (x11_1 : Int) := of_decide_eq_true (by first | (with_reducible assumption) | assumption)
         have q186 : x11_1 < (l0.length : Int) := of_decide_eq_true (by first | (with_reducible assumption) | assumption)
         obtain ⟨ad186, e186, hx186_0, hx186_1, hx186_2⟩ := at_T61 HR0.out x11_1 p186 q186
         cases e186
         replace hx186_0 := (HB.out.cell (World.block_lt_of_cell? w _ hx186_0)).trans hx186_0
         replace hx186_1 := (HB.out.cell (World.block_lt_of_cell? w _ hx186_1)).trans hx186_1
         replace hx186_2 := (HB.out.cell (World.block_lt_of_cell? w _ hx186_2)).trans hx186_2
         replace p186 := eq_true p186
         replace q186 := eq_true q186
         go_wp2_with (first | ((with_reducible refine gate_dst (N := 4) rfl ?_); refine boxA (N := 4) (cs := #[.string (⟨#[]⟩ : ByteArray), .int .i64 0, .int .i64 0]) (t := 61) ?_; intro gb187 hg w52 hbox hb; have n0_ := hB HB hb; have n1_ := Aside0.mk (hbox); have n2_ := gW hg HB; have n3_ := gW hg HB; clear HB; have HB := n0_; have BK187 := n1_; have GW187 := n2_; have GE187 := n3_; clear n0_ n1_ n2_ n3_; clear hb hbox hg; have hcz53_0 : w52.cell? ⟨gb187, 0, none⟩ = some (.string (⟨#[]⟩ : ByteArray)) := lc BK187 0; have hcz53_1 : w52.cell? ⟨gb187, 1, none⟩ = some (.int .i64 0) := lc BK187 1; have hcz53_2 : w52.cell? ⟨gb187, 2, none⟩ = some (.int .i64 0) := lc BK187 2; have hfz53_0 := fz BK187 0; have hfz53_1 := fz BK187 1; have hfz53_2 := fz BK187 2) | ((with_reducible refine gate_callee (f := 66) rfl ?_); refine goA (some 18) Try.func66 #[.string ((rd_T61 l0 x11_1).f0)] ?_; (with_reducible refine (currency_valid.calls k1 ((rd_T61 l0 x11_1).f0) false _ A6.out).mono ?_); rintro e w' ⟨rfl, ⟨nd, rfl⟩⟩; refine ⟨_, rfl, ?_⟩))
         go_ret
         exact ⟨by first | rfl | (simp [errW_none, errW_some] <;> rfl) | (simp [*, errW_none, errW_some] <;> rfl) | (simp (disch := first | assumption | omega) only [Int.tdiv_eq_ediv_of_nonneg, Int.tmod_eq_emod_of_nonneg]; rfl), aH HB⟩
       ·rw [if_neg c5] at H
        exact absurd H (by simp)
      ·rw [if_neg c4] at H
       exact absurd H (by simp)
     ·rw [if_neg c3] at H
      have c3b0 : decide (x11_1 < (l0.length : Int)) = false := decide_eq_false c3
      clear c3
      obtain rfl := Option.some.inj H
      simp only [Option.some.injEq, Prod.mk.injEq] at H
      obtain ⟨rfl⟩ := H
      go_wp2
      go_ret
      exact ⟨by first | rfl | (simp [errW_none, errW_some] <;> rfl) | (simp [*, errW_none, errW_some] <;> rfl) | (simp (disch := first | assumption | omega) only [Int.tdiv_eq_ediv_of_nonneg, Int.tmod_eq_emod_of_nonneg]; rfl), aH HB⟩

end Go.Proofs.Yteoieencagcgdaa.PX
end
section
namespace Go.Proofs.Yteoieencagcgdaa.PX
open Go.RowKit Go.Proofs.YteoieencagcgdaaW.PrintWords Go.Proofs.YteoieencagcgdaaW.PrintLast Go.Proofs.YteoieencagcgdaaW.PrintMore
attribute [local go_sem] max2_int min2_int max_two min_two max_three min_three max_four min_four
set_option linter.unusedVariables false
set_option linter.unusedSimpArgs false

def rateOf (t : List S61) (cur : ByteArray) (day : Int) : Option Int :=
  t.foldl (fun acc x => if x.f1 ≤ day ∧ x.f0.data.toList = cur.data.toList then some x.f2 else acc) (if cur.data.toList = [69, 85, 82] then some 1000000 else none)
def rowOk (x : S61) : Bool := decide (x.f0.size ≤ 140737488355327) && decide (-9223372036854775808 ≤ x.f2) && decide (x.f2 < 9223372036854775808)
def currency_At.f (k : Nat) (t : List S61) (cur : ByteArray) (day : Int) : Option (Int × Int) :=
  (currency_Validate.f k t).bind fun e => if e = 0 then (if day < 0 then some (0, 2) else (if day > 36524 then some (0, 2) else
    (if t.all rowOk = true then (if cur.size ≤ 140737488355327 ∧ t.length ≤ 1000 then (match rateOf t cur day with | some v => some (v, 0) | none => some (0, 6)) else none) else none))) else some (0, e)
theorem atLaw : Maps.Keyed Try.prog 9 := Maps.string_keyed Try.underlying9
theorem atZero (w : World) : (zeroValue 3).run Try.prog w = .ok (.int .i64 0) w := by kernel_rfl
def MapIs (D : DataW Unit) (f : ByteArray → Option Int) : Prop := Maps.IsMap D ∧ ∀ s : ByteArray, (Maps.has D (.string s.data.toList) = (f s).isSome) ∧ ∀ v, f s = some v → D.atKey (.string s.data.toList) (.lit (.int .i64 0)) = .lit (.int .i64 v)
theorem mapIs_none : MapIs (.map []) (fun _ => none) := ⟨⟨[], rfl⟩, fun s => ⟨rfl, fun v h => by cases h⟩⟩
theorem mapIs_put {D : DataW Unit} {f : ByteArray → Option Int} (h : MapIs D f) (c : ByteArray) (v : Int) : MapIs (D.put (.string c.data.toList) (.lit (.int .i64 v))) (fun s => if c.data.toList = s.data.toList then some v else f s) := by
  obtain ⟨h1, h2⟩ := h
  refine ⟨by obtain ⟨es, rfl⟩ := h1; exact ⟨_, rfl⟩, fun s => ?_⟩
  by_cases e : c.data.toList = s.data.toList
  · dsimp only
    rw [if_pos e, ← e]
    exact ⟨Maps.has_put_same (k := .string c.data.toList) h1 trivial _, fun w hw => by cases hw; exact Maps.atKey_put_same (k := .string c.data.toList) h1 trivial _ _⟩
  · dsimp only
    rw [if_neg e]
    have hne : (Lit.string s.data.toList) ≠ .string c.data.toList := fun he => e (by injection he with he; exact he.symm)
    exact ⟨by rw [Maps.has_put_other hne]; exact (h2 s).1, fun w hw => by rw [Maps.atKey_put_other hne]; exact (h2 s).2 w hw⟩
theorem rateOf_step (t : List S61) (j : Nat) (hj : j < t.length) (cur : ByteArray) (day : Int) : rateOf (t.take (j + 1)) cur day = if (rd_T61 t j).f1 ≤ day ∧ (rd_T61 t j).f0.data.toList = cur.data.toList then some (rd_T61 t j).f2 else rateOf (t.take j) cur day := by
  have e : t.take (j + 1) = t.take j ++ [rd_T61 t j] := by
    rw [List.take_add_one]
    simp [rd_T61, List.getD, hj]
  rw [e]
  unfold rateOf
  rw [List.foldl_append]
  rfl
theorem rowOk_at {t : List S61} (h : t.all rowOk = true) (j : Nat) (hj : j < t.length) : (rd_T61 t j).f0.size ≤ 140737488355327 ∧ (Lit.int .i64 (rd_T61 t j).f2).wf = true := by
  have hm : rd_T61 t j ∈ t := by simp [rd_T61, List.getD, hj]
  have := List.all_eq_true.mp h _ hm
  simp only [rowOk, Bool.and_eq_true, decide_eq_true_eq] at this
  refine ⟨this.1.1, ?_⟩
  have e : wrap64 (rd_T61 t j).f2 = (rd_T61 t j).f2 := by
    simp only [wrap64, IntKind.wrap]
    have h1 := this.1.2
    have h2 := this.2
    omega
  have := wrap64_wf (rd_T61 t j).f2
  rwa [e] at this
theorem atOwnsSet {H : Type} {w : World} {P : Program} {k : TypeId} {R : Value → Option (DataW H × List MemPlace)} {b n : Nat} {D : DataW H} (h : w.ownsMap P k R b n D) {a : Addr} (ha : b ≠ a.block) (u : Value) : (w.setCell a u).ownsMap P k R b n D := by
  obtain ⟨es, clock, hb, r⟩ := h
  exact ⟨es, clock, by rw [Below.heap_setCell _ _ _ _ ha]; exact hb, r⟩
theorem atGrown {w w' : World} (h : Below w.heap.size w w') : w.grownBy w' none := ⟨h.os, h.tape, h.output, h.size, fun i hi _ => h.block i hi⟩
set_option maxHeartbeats 2000000 in
set_option maxRecDepth 100000 in
theorem currency_At.calls (k : Nat) (A : Option Addr) (c : Nat) (t : List S61) (cur : ByteArray) (day : Int) (r1 r2 : Int) (w : World) (hr : Kd.C k61 w A t.length t) (hc : t.length ≤ c) (h : currency_At.f k t cur day = some (r1, r2)) :
    Calls Try.prog 49 #[.slice A t.length c, .string cur, .int .i64 day] w fun e w' => e = .returned (.tuple #[.int .i64 r1, .int .i64 r2]) ∧ Below w.heap.size w w' := by
  have hmm := @run_makeMap Try.prog
  have hu25 := Try.underlying61
  unfold currency_At.f at h
  obtain ⟨e, hv, h⟩ := Option.bind_eq_some_iff.mp h
  have Hv := Aside0.mk hv
  clear hv
  by_cases he : e = 0
  case neg =>
    rw [if_neg he] at h
    simp only [Option.some.injEq, Prod.mk.injEq] at h
    obtain ⟨rfl, rfl⟩ := h
    have he' : (e != 0) = true := by simpa using he
    clear he
    go_enter Try.func49, Try.ntmps49
    go_wp2_with fail
    refine (currency_Validate.calls k A c t e _ hr hc Hv.out).mono ?_
    rintro e' w1 ⟨rfl, hB⟩
    go_wp2
    go_ret2
    exact ⟨rfl, hB⟩
  rw [if_pos he] at h
  subst he
  by_cases h0 : day < 0
  · rw [if_pos h0] at h
    simp only [Option.some.injEq, Prod.mk.injEq] at h
    obtain ⟨rfl, rfl⟩ := h
    have hd : decide (day < 0) = true := decide_eq_true h0
    go_enter Try.func49, Try.ntmps49
    go_wp2_with fail
    refine (currency_Validate.calls k A c t _ _ hr hc Hv.out).mono ?_
    rintro e' w1 ⟨rfl, hB⟩
    go_wp2
    go_ret2
    exact ⟨rfl, hB⟩
  rw [if_neg h0] at h
  have hd : decide (day < 0) = false := decide_eq_false h0
  by_cases h1 : day > 36524
  · rw [if_pos h1] at h
    simp only [Option.some.injEq, Prod.mk.injEq] at h
    obtain ⟨rfl, rfl⟩ := h
    have hd2 : decide (36524 < day) = true := decide_eq_true h1
    go_enter Try.func49, Try.ntmps49
    go_wp2_with fail
    refine (currency_Validate.calls k A c t _ _ hr hc Hv.out).mono ?_
    rintro e' w1 ⟨rfl, hB⟩
    go_wp2
    go_ret2
    exact ⟨rfl, hB⟩
  rw [if_neg h1] at h
  have hd2 : decide (36524 < day) = false := decide_eq_false h1
  by_cases hall : t.all rowOk = true
  case neg => rw [if_neg hall] at h; exact absurd h (by simp)
  by_cases hsz : cur.size ≤ 140737488355327 ∧ t.length ≤ 1000
  case neg => rw [if_pos hall, if_neg hsz] at h; exact absurd h (by simp)
  rw [if_pos hall, if_pos hsz] at h
  obtain ⟨hsz, hmx⟩ := hsz
  have Hall := Aside0.mk hall
  have H := Aside0.mk h
  have HR := Aside0.mk hr
  clear h hall hr
  have hmax : t.length ≤ 9223372036854775807 := HR.out.2.1
  have hkeyE : keyOf Try.prog 9 (.string ⟨#[69, 85, 82]⟩) = some (.string [69, 85, 82]) := WideMaps.keyOf_string_mk (P := Try.prog) Try.underlying9 (by decide)
  go_enter Try.func49, Try.ntmps49
  go_wp2_with fail
  refine (currency_Validate.calls k A c t _ _ HR.out hc Hv.out).mono ?_
  rintro e' w1 ⟨rfl, hB⟩
  have hown0 := World.ownsMap_made (H := Unit) w1 Try.prog 9 (plainElem Try.prog 3)
  have hB0 : Below w.heap.size w (w1.alloc (.map #[] 0)) := hB.alloc hB.size _
  have hsz1 := hB.size
  obtain ⟨w2, hrun2, hown2, hgrow2⟩ := hown0.update atLaw Try.underlying100 (by unfold maxLen; omega) hkeyE (plainElem_int (H := Unit) Try.underlying3 (a := 1000000) (by decide))
  have hB2 : Below w.heap.size w w2 := hB0.grown hgrow2 hB0.size (fun j hj => by cases hj; exact hsz1)
  have hM2 : MapIs (DataW.put (.map []) (.string [69, 85, 82]) (.lit (.int .i64 1000000))) (rateOf [] · day) := by
    have := mapIs_put mapIs_none ⟨#[69, 85, 82]⟩ 1000000
    refine cast (congrArg _ (funext fun s => ?_)) this
    simp [rateOf, eq_comm]
  go_wp2_with fail
  go_loopw [29] (fun i wr => ∃ j : Nat, j ≤ t.length ∧ i = .int .i64 j ∧ ∃ D, Aside0 (wr.ownsMap Try.prog 9 (plainElem Try.prog 3) w1.heap.size (1 + j) D) ∧ Aside0 (MapIs D (rateOf (t.take j) · day)) ∧ Aside0 (Below w.heap.size w wr))
    (fun i _ => t.length - (intOf i).toNat)
  case atStart => exact ⟨0, Nat.zero_le _, rfl, _, ⟨hown2⟩, ⟨hM2⟩, ⟨hB2⟩⟩
  case round =>
    obtain ⟨j, hj, rfl, D, hown, hM, HB⟩ := hrel
    by_cases hlt : j < t.length
    · have hlt' : decide ((j : Int) < (t.length : Int)) = true := decide_eq_true (by omega)
      obtain ⟨ad, eA, hx0, hx1, hx2⟩ := at_T61 HR.out (j : Int) (by omega) (by omega)
      cases eA
      replace hx0 := (HB.out.cell (World.block_lt_of_cell? w _ hx0)).trans hx0
      replace hx1 := (HB.out.cell (World.block_lt_of_cell? w _ hx1)).trans hx1
      replace hx2 := (HB.out.cell (World.block_lt_of_cell? w _ hx2)).trans hx2
      simp only [Int.toNat_natCast] at hx0 hx1 hx2
      obtain ⟨hs, hwf⟩ := rowOk_at Hall.out j hlt
      have hstep := Aside0.mk (fun cur => rateOf_step t j hlt cur day)
      have p0 : (0 ≤ (j : Int)) = True := eq_true (by omega)
      have p1 : ((j : Int) < (t.length : Int)) = True := eq_true (by omega)
      generalize hx : rd_T61 t (j : Int) = x at hx0 hx1 hx2 hs hwf hstep
      have hkey : keyOf Try.prog 9 (.string x.f0) = some (.string x.f0.data.toList) := WideMaps.keyOf_string_mk (P := Try.prog) Try.underlying9 (Nat.le_trans hs (by unfold maxLen; omega))
      by_cases hd3 : x.f1 ≤ day
      · have hd3' : decide (x.f1 ≤ day) = true := decide_eq_true hd3
        go_wp2_with (first | ((with_reducible refine gate_dst (N := 11) rfl ?_); refine box_event ?hg (N := 11) ?hd (cs := #[.string (⟨#[]⟩ : ByteArray), .int .i64 0, .int .i64 0]) (t := 61) ?hr ?_; (case hd => rfl); (case hg => rfl); (case hr => first | (go_simp; done) | (go_simp; rfl)); intro gb hg w9 hbox hb9; have HB9 := Aside0.mk (below_step HB.out hb9); have HW := Aside0.mk (hown.out.kept (atGrown hb9) (by simp)); have NE := Aside0.mk ((by rw [hg]; exact Nat.ne_of_lt hown.out.lt) : w1.heap.size ≠ gb); have BK := Aside0.mk hbox; have GE := Aside0.mk ((by rw [hg]; exact HB.out.size) : w.heap.size ≤ gb); clear hbox hg hb9; have hcz0 : w9.cell? ⟨gb, 0, none⟩ = some (.string (⟨#[]⟩ : ByteArray)) := (blk_cell BK.out 0).trans rfl; have hcz1 : w9.cell? ⟨gb, 1, none⟩ = some (.int .i64 0) := (blk_cell BK.out 1).trans rfl; have hcz2 : w9.cell? ⟨gb, 2, none⟩ = some (.int .i64 0) := (blk_cell BK.out 2).trans rfl; have hfz0 := blk_frozen BK.out 0; have hfz1 := blk_frozen BK.out 1; have hfz2 := blk_frozen BK.out 2) | (at_mapUpdate; have HS := atOwnsSet (a := ⟨gb, 2, none⟩) (atOwnsSet (a := ⟨gb, 1, none⟩) (atOwnsSet (a := ⟨gb, 0, none⟩) HW.out NE.out (.string x.f0)) NE.out (.int .i64 x.f1)) NE.out (.int .i64 x.f2); (refine wpList_mapUpdate_own _ rfl _ _ _ 100 rfl 9 3 atLaw Try.underlying100 _ w1.heap.size (1 + j) _ rfl HS (by unfold maxLen; omega) _ _ _ rfl rfl hkey _ [] (plainElem_int Try.underlying3 hwf) ?_); intro w3 hown3 hgrow3) | go_in)
        go_roundw
        case rel =>
          refine ⟨j + 1, hlt, by go_num, _, ⟨hown3⟩, ⟨?_⟩, ⟨(below_set (below_set (below_set HB9.out GE.out) GE.out) GE.out).grown hgrow3 (by simpa using HB9.out.size) (fun k hk => by cases hk; exact hsz1)⟩⟩
          refine cast (congrArg _ (funext fun s => ?_)) (mapIs_put hM.out x.f0 x.f2)
          rw [hstep.out]
          simp [hd3]
        case measure => simp [intOf]; omega
      · have hd3' : decide (x.f1 ≤ day) = false := decide_eq_false hd3
        go_wp2_with (first | ((with_reducible refine gate_dst (N := 11) rfl ?_); refine box_event ?hg (N := 11) ?hd (cs := #[.string (⟨#[]⟩ : ByteArray), .int .i64 0, .int .i64 0]) (t := 61) ?hr ?_; (case hd => rfl); (case hg => rfl); (case hr => first | (go_simp; done) | (go_simp; rfl)); intro gb hg w9 hbox hb9; have HB9 := Aside0.mk (below_step HB.out hb9); have HW := Aside0.mk (hown.out.kept (atGrown hb9) (by simp)); have NE := Aside0.mk ((by rw [hg]; exact Nat.ne_of_lt hown.out.lt) : w1.heap.size ≠ gb); have BK := Aside0.mk hbox; have GE := Aside0.mk ((by rw [hg]; exact HB.out.size) : w.heap.size ≤ gb); clear hbox hg hb9; have hcz0 : w9.cell? ⟨gb, 0, none⟩ = some (.string (⟨#[]⟩ : ByteArray)) := (blk_cell BK.out 0).trans rfl; have hcz1 : w9.cell? ⟨gb, 1, none⟩ = some (.int .i64 0) := (blk_cell BK.out 1).trans rfl; have hcz2 : w9.cell? ⟨gb, 2, none⟩ = some (.int .i64 0) := (blk_cell BK.out 2).trans rfl; have hfz0 := blk_frozen BK.out 0; have hfz1 := blk_frozen BK.out 1; have hfz2 := blk_frozen BK.out 2) | go_in)
        go_roundw
        case rel =>
          refine ⟨j + 1, hlt, by go_num, D, ⟨?_⟩, ⟨?_⟩, ⟨below_set (below_set (below_set HB9.out GE.out) GE.out) GE.out⟩⟩
          · exact (atOwnsSet (atOwnsSet (atOwnsSet HW.out NE.out _) NE.out _) NE.out _).mono (by omega)
          · refine cast (congrArg _ (funext fun s => ?_)) hM.out
            rw [hstep.out]
            simp [hd3]
        case measure => simp [intOf]; omega
    · have hlt' : decide ((j : Int) < (t.length : Int)) = false := decide_eq_false (by omega)
      have hjl : j = t.length := by omega
      subst hjl
      simp only [List.take_length] at hM
      have hkey : keyOf Try.prog 9 (.string cur) = some (.string cur.data.toList) := WideMaps.keyOf_string_mk (P := Try.prog) Try.underlying9 (Nat.le_trans hsz (by unfold maxLen; omega))
      cases hr' : rateOf t cur day with
      | none =>
        have hhas : Maps.has D (.string cur.data.toList) = false := (hM.out.2 cur).1.trans (by show (rateOf t cur day).isSome = _; rw [hr']; rfl)
        have Hr := H.out
        rw [hr'] at Hr
        clear hr' H
        simp only [Option.some.injEq, Prod.mk.injEq] at Hr
        obtain ⟨rfl, rfl⟩ := Hr
        go_wp2_with (first | (at_lookup; refine wpList_lookup_own_ok_int _ rfl _ _ 100 rfl 9 3 .i64 atLaw Try.underlying100 Try.underlying3 (atZero _) w1.heap.size (1 + t.length) D rfl hown.out _ _ rfl hkey ?_; intro c1 hat hwc; rw [hhas]) | go_in)
        go_ret2
        exact ⟨rfl, HB.out⟩
      | some v =>
        have hhas : Maps.has D (.string cur.data.toList) = true := (hM.out.2 cur).1.trans (by show (rateOf t cur day).isSome = _; rw [hr']; rfl)
        have hat0 := (hM.out.2 cur).2 v hr'
        have Hr := H.out
        rw [hr'] at Hr
        clear hr' H
        simp only [Option.some.injEq, Prod.mk.injEq] at Hr
        obtain ⟨rfl, rfl⟩ := Hr
        go_wp2_with (first | (at_lookup; refine wpList_lookup_own_ok_int _ rfl _ _ 100 rfl 9 3 .i64 atLaw Try.underlying100 Try.underlying3 (atZero _) w1.heap.size (1 + t.length) D rfl hown.out _ _ rfl hkey ?_; intro c1 hat hwc; rw [hhas]; rw [hat0] at hat; injection hat with hat; injection hat with _ hat; subst hat) | go_in)
        go_ret2
        exact ⟨rfl, HB.out⟩

end Go.Proofs.Yteoieencagcgdaa.PX
end
section
namespace Go.Proofs.Yteoieencagcgdaa.PX
open Go.RowKit Go.Proofs.YteoieencagcgdaaW.PrintWords Go.Proofs.YteoieencagcgdaaW.PrintLast Go.Proofs.YteoieencagcgdaaW.PrintMore
attribute [local go_sem] max2_int min2_int max_two min_two max_three min_three max_four min_four
set_option linter.unusedVariables false
set_option linter.unusedSimpArgs false

mutual
def money_Scale.j0 : Nat → Int → Int → Int → Int → Bool → Option (Int × Int)
  | 0, _, _, _, _, _ => none
  | k + 1, x0, x1, x2, x3, x34 => if x34 = true then (some (0, 2)) else ((exact_MulDiv.f k (IntKind.u64.wrap (mx x0 (wrap64 (-x0)))) (IntKind.u64.wrap (x1)) (IntKind.u64.wrap (x2)) x3).bind fun bt210 => (if bt210.2 = 0 then (money_Scale.j1 k x0 bt210.1 (decide (bt210.1 > 1000000000000))) else (money_Scale.j1 k x0 bt210.1 true)))
def money_Scale.j1 : Nat → Int → Int → Bool → Option (Int × Int)
  | 0, _, _, _ => none
  | k + 1, x0, x11, x55 => if x55 = true then (some (0, 3)) else (if x0 < 0 then (some (wrap64 (-(wrap64 (x11))), 0)) else (some (wrap64 (x11), 0)))
end
def money_Scale.f (k : Nat) (a0 : Int) (a1 : Int) (a2 : Int) (a3 : Int) : Option (Int × Int) := (money_amounts.f k (([a0, a1, a2] : List Int))).bind fun t209 => (if t209 = true then (if a1 < 0 then (money_Scale.j0 k a0 a1 a2 a3 true) else (if a2 < 1 then (money_Scale.j0 k a0 a1 a2 a3 true) else (if a3 < 0 then (money_Scale.j0 k a0 a1 a2 a3 true) else (money_Scale.j0 k a0 a1 a2 a3 (decide (a3 > 3)))))) else (money_Scale.j0 k a0 a1 a2 a3 true))
set_option maxHeartbeats 8000000 in
set_option maxRecDepth 100000 in
theorem money_Scale.calls (k : Nat) (a0 : Int) (a1 : Int) (a2 : Int) (a3 : Int) (r1 : Int) (r2 : Int) (w : World) (h : money_Scale.f k a0 a1 a2 a3 = some (r1, r2)) :
   Calls Try.prog 50 #[.int .i64 a0, .int .i64 a1, .int .i64 a2, .int .i64 a3] w fun e w' => e = .returned (.tuple #[.int .i64 r1, .int .i64 r2]) ∧ Below w.heap.size w w' := by
  have HB := Aside0.mk (Below.refl w.heap.size w)
  have H : ((money_amounts.f k (([a0, a1, a2] : List Int))).bind fun t209 => (if t209 = true then (if a1 < 0 then (money_Scale.j0 k a0 a1 a2 a3 true) else (if a2 < 1 then (money_Scale.j0 k a0 a1 a2 a3 true) else (if a3 < 0 then (money_Scale.j0 k a0 a1 a2 a3 true) else (money_Scale.j0 k a0 a1 a2 a3 (decide (a3 > 3)))))) else (money_Scale.j0 k a0 a1 a2 a3 true))) = some (r1, r2) := h
  clear h
  have HC5 := Aside0.mk H
  clear H
  go_enter Try.func50, Try.ntmps50
  go_upto_region 1 with (fail)
  go_cut [34] (fun v34 wc => ∃ (kq : Nat) (x34_4 : Bool), v34 = .bool x34_4 ∧ Aside0 (money_Scale.j0 kq a0 a1 a2 a3 x34_4 = some (r1, r2)) ∧ Aside0 (kq ≤ k) ∧ Aside0 (Below w.heap.size w wc))
  case first =>
   have H := HC5.out
   clear HC5
   obtain ⟨y206, hy206⟩ : ∃ y_ : List Int, y_ = (([a0, a1, a2] : List Int)) := ⟨_, rfl⟩
   replace H : ((money_amounts.f k y206).bind fun t209 => (if t209 = true then (if a1 < 0 then (money_Scale.j0 k a0 a1 a2 a3 true) else (if a2 < 1 then (money_Scale.j0 k a0 a1 a2 a3 true) else (if a3 < 0 then (money_Scale.j0 k a0 a1 a2 a3 true) else (money_Scale.j0 k a0 a1 a2 a3 (decide (a3 > 3)))))) else (money_Scale.j0 k a0 a1 a2 a3 true))) = some (r1, r2) := by first | (rw [hy206]; with_reducible exact H) | (have H2_ := (Option.bind_some _ _).symm.trans H; rw [hy206]; with_reducible exact H2_) | (have H2_ := (Option.bind_some _ _).symm.trans H; with_reducible exact H2_) | with_reducible exact H | (rw [hy206]; exact H) | exact H
   have Ny206 := Aside0.mk hy206
   clear hy206
   replace H := Option.bind_eq_some_iff.mp H
   obtain ⟨t209, A60, H⟩ := H
   replace H : (if t209 = true then (if a1 < 0 then (money_Scale.j0 k a0 a1 a2 a3 true) else (if a2 < 1 then (money_Scale.j0 k a0 a1 a2 a3 true) else (if a3 < 0 then (money_Scale.j0 k a0 a1 a2 a3 true) else (money_Scale.j0 k a0 a1 a2 a3 (decide (a3 > 3)))))) else (money_Scale.j0 k a0 a1 a2 a3 true)) = some (r1, r2) := H
   have A6 := Aside0.mk A60
   clear A60
   by_cases c7 : t209 = true
   ·subst c7
    have H1 : (if a1 < 0 then (money_Scale.j0 k a0 a1 a2 a3 true) else (if a2 < 1 then (money_Scale.j0 k a0 a1 a2 a3 true) else (if a3 < 0 then (money_Scale.j0 k a0 a1 a2 a3 true) else (money_Scale.j0 k a0 a1 a2 a3 (decide (a3 > 3)))))) = some (r1, r2) := by rw [if_pos rfl] at H; exact H
    clear H
    have H := H1
    clear H1
    by_cases c8 : a1 < 0
    ·rw [if_pos c8] at H
     have c8b0 : decide (a1 < 0) = true := decide_eq_true c8
     clear c8
     (first | rw [c8b0] | (simp only [i64_w, i32_w]; rw [c8b0]) | skip)
     have H' := Aside0.mk H
     clear H
     go_wp2_with (first | ((with_reducible refine gate_dst (N := 16) rfl ?_); refine Kd.R_lit (Kd.int .i64) _ 3 ?hg (N := 16) ?hd (xs := ([a0, a1, a2] : List Int)) (inner := [.int .i64 a0, .int .i64 a1, .int .i64 a2]) (ok := fun _ => True) (okp := fun _ => True) ?hr ?hp (fun _ hk => hk) trivial (Below.refl _ _) (Nat.le_refl _) (by simp) ?_; (case hd => rfl); (case hg => rfl); (case hr => first | (go_simp; done) | (go_simp; rfl)); (case hp => exact (Reps.one (show Kd.M (Kd.int .i64) _ _ _ a0 [.int .i64 a0] from rfl) (Reps.one (show Kd.M (Kd.int .i64) _ _ _ a1 [.int .i64 a1] from rfl) (Reps.one (show Kd.M (Kd.int .i64) _ _ _ a2 [.int .i64 a2] from rfl) (Reps.none _ _))))); intro v207 w9 ho10 hb hg_ hnew_; clear hg_ hnew_; (first | rw [← Ny206.out] at ho10 | (simp only [Int.reduceToNat] at ho10; rw [← Ny206.out] at ho10)); have n0_ := rL ho10 HB; have n1_ := hB HB hb; clear HB; have HO208 := n0_; have HB := n1_; clear n0_ n1_; clear hb ho10; obtain ⟨Ao11, co11, eo11⟩ := Kd.R_slice HO208.out; subst eo11) | ((with_reducible refine gate_callee (f := 39) rfl ?_); refine goA (some 17) Try.func39 #[.slice Ao11 y206.length co11] ?_; (with_reducible refine (money_amounts.calls k _ _ y206 true _ ?side1 ?side2 A6.out).mono ?_); (case side1 => repeat (first | exact (Kd.R_reads' HO208.out).2.2 | (with_reducible refine Kd.C_alloc ?_ _) | (with_reducible refine Kd.C_drewN ?_ _) | (with_reducible refine Kd.C_drew ?_))); (case side2 => exact (Kd.R_reads' HO208.out).2.1); rintro e w' ⟨rfl, ⟨nd, rfl⟩⟩; refine ⟨_, rfl, ?_⟩))
     go_meet
     case rel => exact ⟨_, (true), (by first | rfl | (simp; done) | (simp [*]; done)), H', ⟨by first | omega | exact Nat.le_refl _⟩, ⟨aH HB⟩⟩
    ·rw [if_neg c8] at H
     have c8b0 : decide (a1 < 0) = false := decide_eq_false c8
     clear c8
     (first | rw [c8b0] | (simp only [i64_w, i32_w]; rw [c8b0]) | skip)
     by_cases c12 : a2 < 1
     ·rw [if_pos c12] at H
      have c12b0 : decide (a2 < 1) = true := decide_eq_true c12
      clear c12
      have H' := Aside0.mk H
      clear H
      go_wp2_with (first | ((with_reducible refine gate_dst (N := 16) rfl ?_); refine Kd.R_lit (Kd.int .i64) _ 3 ?hg (N := 16) ?hd (xs := ([a0, a1, a2] : List Int)) (inner := [.int .i64 a0, .int .i64 a1, .int .i64 a2]) (ok := fun _ => True) (okp := fun _ => True) ?hr ?hp (fun _ hk => hk) trivial (Below.refl _ _) (Nat.le_refl _) (by simp) ?_; (case hd => rfl); (case hg => rfl); (case hr => first | (go_simp; done) | (go_simp; rfl)); (case hp => exact (Reps.one (show Kd.M (Kd.int .i64) _ _ _ a0 [.int .i64 a0] from rfl) (Reps.one (show Kd.M (Kd.int .i64) _ _ _ a1 [.int .i64 a1] from rfl) (Reps.one (show Kd.M (Kd.int .i64) _ _ _ a2 [.int .i64 a2] from rfl) (Reps.none _ _))))); intro v207 w13 ho14 hb hg_ hnew_; clear hg_ hnew_; (first | rw [← Ny206.out] at ho14 | (simp only [Int.reduceToNat] at ho14; rw [← Ny206.out] at ho14)); have n0_ := rL ho14 HB; have n1_ := hB HB hb; clear HB; have HO208 := n0_; have HB := n1_; clear n0_ n1_; clear hb ho14; obtain ⟨Ao15, co15, eo15⟩ := Kd.R_slice HO208.out; subst eo15) | ((with_reducible refine gate_callee (f := 39) rfl ?_); refine goA (some 17) Try.func39 #[.slice Ao15 y206.length co15] ?_; (with_reducible refine (money_amounts.calls k _ _ y206 true _ ?side1 ?side2 A6.out).mono ?_); (case side1 => repeat (first | exact (Kd.R_reads' HO208.out).2.2 | (with_reducible refine Kd.C_alloc ?_ _) | (with_reducible refine Kd.C_drewN ?_ _) | (with_reducible refine Kd.C_drew ?_))); (case side2 => exact (Kd.R_reads' HO208.out).2.1); rintro e w' ⟨rfl, ⟨nd, rfl⟩⟩; refine ⟨_, rfl, ?_⟩))
      go_meet
      case rel => exact ⟨_, (true), (by first | rfl | (simp; done) | (simp [*]; done)), H', ⟨by first | omega | exact Nat.le_refl _⟩, ⟨aH HB⟩⟩
     ·rw [if_neg c12] at H
      have c12b0 : decide (a2 < 1) = false := decide_eq_false c12
      clear c12
      by_cases c16 : a3 < 0
      ·rw [if_pos c16] at H
       have c16b0 : decide (a3 < 0) = true := decide_eq_true c16
       clear c16
       have H' := Aside0.mk H
       clear H
       go_wp2_with (first | ((with_reducible refine gate_dst (N := 16) rfl ?_); refine Kd.R_lit (Kd.int .i64) _ 3 ?hg (N := 16) ?hd (xs := ([a0, a1, a2] : List Int)) (inner := [.int .i64 a0, .int .i64 a1, .int .i64 a2]) (ok := fun _ => True) (okp := fun _ => True) ?hr ?hp (fun _ hk => hk) trivial (Below.refl _ _) (Nat.le_refl _) (by simp) ?_; (case hd => rfl); (case hg => rfl); (case hr => first | (go_simp; done) | (go_simp; rfl)); (case hp => exact (Reps.one (show Kd.M (Kd.int .i64) _ _ _ a0 [.int .i64 a0] from rfl) (Reps.one (show Kd.M (Kd.int .i64) _ _ _ a1 [.int .i64 a1] from rfl) (Reps.one (show Kd.M (Kd.int .i64) _ _ _ a2 [.int .i64 a2] from rfl) (Reps.none _ _))))); intro v207 w17 ho18 hb hg_ hnew_; clear hg_ hnew_; (first | rw [← Ny206.out] at ho18 | (simp only [Int.reduceToNat] at ho18; rw [← Ny206.out] at ho18)); have n0_ := rL ho18 HB; have n1_ := hB HB hb; clear HB; have HO208 := n0_; have HB := n1_; clear n0_ n1_; clear hb ho18; obtain ⟨Ao19, co19, eo19⟩ := Kd.R_slice HO208.out; subst eo19) | ((with_reducible refine gate_callee (f := 39) rfl ?_); refine goA (some 17) Try.func39 #[.slice Ao19 y206.length co19] ?_; (with_reducible refine (money_amounts.calls k _ _ y206 true _ ?side1 ?side2 A6.out).mono ?_); (case side1 => repeat (first | exact (Kd.R_reads' HO208.out).2.2 | (with_reducible refine Kd.C_alloc ?_ _) | (with_reducible refine Kd.C_drewN ?_ _) | (with_reducible refine Kd.C_drew ?_))); (case side2 => exact (Kd.R_reads' HO208.out).2.1); rintro e w' ⟨rfl, ⟨nd, rfl⟩⟩; refine ⟨_, rfl, ?_⟩))
       go_meet
       case rel => exact ⟨_, (true), (by first | rfl | (simp; done) | (simp [*]; done)), H', ⟨by first | omega | exact Nat.le_refl _⟩, ⟨aH HB⟩⟩
      ·rw [if_neg c16] at H
       have c16b0 : decide (a3 < 0) = false := decide_eq_false c16
       clear c16
       have H' := Aside0.mk H
       clear H
       go_wp2_with (first | ((with_reducible refine gate_dst (N := 16) rfl ?_); refine Kd.R_lit (Kd.int .i64) _ 3 ?hg (N := 16) ?hd (xs := ([a0, a1, a2] : List Int)) (inner := [.int .i64 a0, .int .i64 a1, .int .i64 a2]) (ok := fun _ => True) (okp := fun _ => True) ?hr ?hp (fun _ hk => hk) trivial (Below.refl _ _) (Nat.le_refl _) (by simp) ?_; (case hd => rfl); (case hg => rfl); (case hr => first | (go_simp; done) | (go_simp; rfl)); (case hp => exact (Reps.one (show Kd.M (Kd.int .i64) _ _ _ a0 [.int .i64 a0] from rfl) (Reps.one (show Kd.M (Kd.int .i64) _ _ _ a1 [.int .i64 a1] from rfl) (Reps.one (show Kd.M (Kd.int .i64) _ _ _ a2 [.int .i64 a2] from rfl) (Reps.none _ _))))); intro v207 w20 ho21 hb hg_ hnew_; clear hg_ hnew_; (first | rw [← Ny206.out] at ho21 | (simp only [Int.reduceToNat] at ho21; rw [← Ny206.out] at ho21)); have n0_ := rL ho21 HB; have n1_ := hB HB hb; clear HB; have HO208 := n0_; have HB := n1_; clear n0_ n1_; clear hb ho21; obtain ⟨Ao22, co22, eo22⟩ := Kd.R_slice HO208.out; subst eo22) | ((with_reducible refine gate_callee (f := 39) rfl ?_); refine goA (some 17) Try.func39 #[.slice Ao22 y206.length co22] ?_; (with_reducible refine (money_amounts.calls k _ _ y206 true _ ?side1 ?side2 A6.out).mono ?_); (case side1 => repeat (first | exact (Kd.R_reads' HO208.out).2.2 | (with_reducible refine Kd.C_alloc ?_ _) | (with_reducible refine Kd.C_drewN ?_ _) | (with_reducible refine Kd.C_drew ?_))); (case side2 => exact (Kd.R_reads' HO208.out).2.1); rintro e w' ⟨rfl, ⟨nd, rfl⟩⟩; refine ⟨_, rfl, ?_⟩))
       go_meet
       case rel => exact ⟨_, (decide (a3 > 3)), (by first | rfl | (simp; done) | (simp [*]; done)), H', ⟨by first | omega | exact Nat.le_refl _⟩, ⟨aH HB⟩⟩
   ·replace c7 := Bool.eq_false_iff.mpr c7
    subst c7
    have H1 : (money_Scale.j0 k a0 a1 a2 a3 true) = some (r1, r2) := by rw [if_neg (show ¬ (false = true) by decide)] at H; exact H
    clear H
    have H := H1
    clear H1
    have H' := Aside0.mk H
    clear H
    go_wp2_with (first | ((with_reducible refine gate_dst (N := 16) rfl ?_); refine Kd.R_lit (Kd.int .i64) _ 3 ?hg (N := 16) ?hd (xs := ([a0, a1, a2] : List Int)) (inner := [.int .i64 a0, .int .i64 a1, .int .i64 a2]) (ok := fun _ => True) (okp := fun _ => True) ?hr ?hp (fun _ hk => hk) trivial (Below.refl _ _) (Nat.le_refl _) (by simp) ?_; (case hd => rfl); (case hg => rfl); (case hr => first | (go_simp; done) | (go_simp; rfl)); (case hp => exact (Reps.one (show Kd.M (Kd.int .i64) _ _ _ a0 [.int .i64 a0] from rfl) (Reps.one (show Kd.M (Kd.int .i64) _ _ _ a1 [.int .i64 a1] from rfl) (Reps.one (show Kd.M (Kd.int .i64) _ _ _ a2 [.int .i64 a2] from rfl) (Reps.none _ _))))); intro v207 w23 ho24 hb hg_ hnew_; clear hg_ hnew_; (first | rw [← Ny206.out] at ho24 | (simp only [Int.reduceToNat] at ho24; rw [← Ny206.out] at ho24)); have n0_ := rL ho24 HB; have n1_ := hB HB hb; clear HB; have HO208 := n0_; have HB := n1_; clear n0_ n1_; clear hb ho24; obtain ⟨Ao25, co25, eo25⟩ := Kd.R_slice HO208.out; subst eo25) | ((with_reducible refine gate_callee (f := 39) rfl ?_); refine goA (some 17) Try.func39 #[.slice Ao25 y206.length co25] ?_; (with_reducible refine (money_amounts.calls k _ _ y206 false _ ?side1 ?side2 A6.out).mono ?_); (case side1 => repeat (first | exact (Kd.R_reads' HO208.out).2.2 | (with_reducible refine Kd.C_alloc ?_ _) | (with_reducible refine Kd.C_drewN ?_ _) | (with_reducible refine Kd.C_drew ?_))); (case side2 => exact (Kd.R_reads' HO208.out).2.1); rintro e w' ⟨rfl, ⟨nd, rfl⟩⟩; refine ⟨_, rfl, ?_⟩))
    go_meet
    case rel => exact ⟨_, (true), (by first | rfl | (simp; done) | (simp [*]; done)), H', ⟨by first | omega | exact Nat.le_refl _⟩, ⟨aH HB⟩⟩
  case rest =>
   clear HC5
   try clear c1
   try clear p2
   try clear c3
   try clear c5
   try clear c7
   try clear c8
   try clear c8b0
   try clear c12
   try clear c12b0
   try clear c16
   try clear c16b0
   obtain ⟨kq, x34_4, rfl, HA, HJ4, HB⟩ := hcut
   cases kq with
   | zero => exact absurd HA.out (by simp [money_Scale.j0])
   | succ kj4 =>
    have H := HA.out
    clear HA
    simp only [money_Scale.j0] at H
    by_cases c26 : x34_4 = true
    ·subst c26
     have H1 : (some (0, 2)) = some (r1, r2) := by rw [if_pos rfl] at H; exact H
     clear H
     have H := H1
     clear H1
     simp only [Option.some.injEq, Prod.mk.injEq] at H
     obtain ⟨rfl, rfl⟩ := H
     go_wp2
     go_ret2
     exact ⟨by first | rfl | (simp [errW_none, errW_some] <;> rfl) | (simp [*, errW_none, errW_some] <;> rfl) | (simp (disch := first | assumption | omega) only [Int.tdiv_eq_ediv_of_nonneg, Int.tmod_eq_emod_of_nonneg]; rfl), aH HB⟩
    ·replace c26 := Bool.eq_false_iff.mpr c26
     subst c26
     have H1 : ((exact_MulDiv.f kj4 (IntKind.u64.wrap (mx a0 (wrap64 (-a0)))) (IntKind.u64.wrap (a1)) (IntKind.u64.wrap (a2)) a3).bind fun bt210 => (if bt210.2 = 0 then (money_Scale.j1 kj4 a0 bt210.1 (decide (bt210.1 > 1000000000000))) else (money_Scale.j1 kj4 a0 bt210.1 true))) = some (r1, r2) := by rw [if_neg (show ¬ (false = true) by decide)] at H; exact H
     clear H
     have H := H1
     clear H1
     obtain ⟨ji27, hji27⟩ : ∃ j_ : Int, (mx a0 (wrap64 (-a0))) = j_ := ⟨_, rfl⟩
     replace H : ((exact_MulDiv.f kj4 (IntKind.u64.wrap (ji27)) (IntKind.u64.wrap (a1)) (IntKind.u64.wrap (a2)) a3).bind fun bt210 => (if bt210.2 = 0 then (money_Scale.j1 kj4 a0 bt210.1 (decide (bt210.1 > 1000000000000))) else (money_Scale.j1 kj4 a0 bt210.1 true))) = some (r1, r2) := by first | (rw [hji27] at H; exact H) | (simp only [hji27] at H ⊢; exact H)
     have hji27_ : (if a0 < (wrap64 (-a0)) then (wrap64 (-a0)) else a0) = ji27 := hji27
     replace H := Option.bind_eq_some_iff.mp H
     obtain ⟨⟨t210, t211⟩, A280, H⟩ := H
     replace H : (if t211 = 0 then (money_Scale.j1 kj4 a0 t210 (decide (t210 > 1000000000000))) else (money_Scale.j1 kj4 a0 t210 true)) = some (r1, r2) := H
     have A28 := Aside0.mk A280
     clear A280
     have HC29 := Aside0.mk H
     clear H
     go_upto_region 5 with (first | ((with_reducible refine gate_callee (f := 41) rfl ?_); refine goesL_ (some 47) rfl rfl Try.func41 (by kernel_rfl) rfl #[.int .u64 (IntKind.u64.wrap (ji27)), .int .u64 (IntKind.u64.wrap (a1)), .int .u64 (IntKind.u64.wrap (a2)), .int .i64 a3] rfl (by (try simp only [List.map_toArray, List.map_cons, List.map_nil]); first | done | (simp only [hji27]; rfl) | rfl | (simp only [List.length_drop, List.length_take]; rfl)) ?_; (with_reducible refine (exact_MulDiv.calls kj4 (IntKind.u64.wrap (ji27)) (IntKind.u64.wrap (a1)) (IntKind.u64.wrap (a2)) a3 t210 t211 _ A28.out).mono ?_); rintro e w30 ⟨rfl, hb⟩; refine ⟨_, rfl, ?_⟩; have n0_ := hB HB hb; clear HB; have HB := n0_; clear n0_; (try clear hb); (try clear hb2); (try clear hk); (try clear hi)))
     (try simp only [Act.put, List.setIfInBounds_toArray, List.set_cons_zero, List.set_cons_succ])
     go_cut [55] (fun v55 wc => ∃ (kq : Nat) (x55_28 : Bool), v55 = .bool x55_28 ∧ Aside0 (money_Scale.j1 kq a0 t210 x55_28 = some (r1, r2)) ∧ Aside0 (kq ≤ kj4) ∧ Aside0 (Below w.heap.size w wc))
     case first =>
      have H := HC29.out
      clear HC29
      by_cases c31 : t211 = 0
      ·rw [if_pos c31] at H
       have c31b0 : (t211 == 0) = true := beq_iff_eq.mpr c31
       have c31b1 : (t211 != 0) = false := bne_eq_false_iff_eq.mpr c31
       clear c31
       (first | rw [c31b0] | (simp only [i64_w, i32_w]; rw [c31b0]) | skip)
       have H' := Aside0.mk H
       clear H
       go_wp2
       go_meet
       case rel => exact ⟨_, (decide (t210 > 1000000000000)), (by first | rfl | (simp; done) | (simp [*]; done)), H', ⟨by have := HJ4.out; first | omega | exact Nat.le_refl _⟩, ⟨aH HB⟩⟩
      ·rw [if_neg c31] at H
       have c31b0 : (t211 == 0) = false := beq_eq_false_iff_ne.mpr c31
       have c31b1 : (t211 != 0) = true := bne_iff_ne.mpr c31
       (first | rw [c31b0] | (simp only [i64_w, i32_w]; rw [c31b0]) | skip)
       have H' := Aside0.mk H
       clear H
       go_wp2
       go_meet
       case rel => exact ⟨_, (true), (by first | rfl | (simp; done) | (simp [*]; done)), H', ⟨by have := HJ4.out; first | omega | exact Nat.le_refl _⟩, ⟨aH HB⟩⟩
     case rest =>
      clear HC29
      try clear c1
      try clear c2
      try clear p2
      try clear c3
      try clear c4
      try clear c5
      try clear p6
      try clear c7
      try clear c8
      try clear c8b0
      try clear c12
      try clear c12b0
      try clear c16
      try clear c16b0
      try clear c26
      try clear c31
      try clear c31b0
      try clear c31b1
      try clear p2
      obtain ⟨kq, x55_28, rfl, HA, HJ28, HB⟩ := hcut
      cases kq with
      | zero => exact absurd HA.out (by simp [money_Scale.j1])
      | succ kj28 =>
       have H := HA.out
       clear HA
       simp only [money_Scale.j1] at H
       by_cases c32 : x55_28 = true
       ·subst c32
        have H1 : (some (0, 3)) = some (r1, r2) := by rw [if_pos rfl] at H; exact H
        clear H
        have H := H1
        clear H1
        simp only [Option.some.injEq, Prod.mk.injEq] at H
        obtain ⟨rfl, rfl⟩ := H
        go_wp2
        go_ret2
        exact ⟨by first | rfl | (simp [errW_none, errW_some] <;> rfl) | (simp only [← hji27]; first | rfl | (simp [errW_none, errW_some] <;> rfl)) | (simp [*, errW_none, errW_some] <;> rfl) | (simp (disch := first | assumption | omega) only [Int.tdiv_eq_ediv_of_nonneg, Int.tmod_eq_emod_of_nonneg]; rfl), aH HB⟩
       ·replace c32 := Bool.eq_false_iff.mpr c32
        subst c32
        have H1 : (if a0 < 0 then (some (wrap64 (-(wrap64 (t210))), 0)) else (some (wrap64 (t210), 0))) = some (r1, r2) := by rw [if_neg (show ¬ (false = true) by decide)] at H; exact H
        clear H
        have H := H1
        clear H1
        by_cases c33 : a0 < 0
        ·rw [if_pos c33] at H
         have c33b0 : decide (a0 < 0) = true := decide_eq_true c33
         clear c33
         simp only [Option.some.injEq, Prod.mk.injEq] at H
         obtain ⟨rfl, rfl⟩ := H
         go_wp2
         go_ret2
         exact ⟨by first | rfl | (simp [errW_none, errW_some] <;> rfl) | (simp only [← hji27]; first | rfl | (simp [errW_none, errW_some] <;> rfl)) | (simp [*, errW_none, errW_some] <;> rfl) | (simp (disch := first | assumption | omega) only [Int.tdiv_eq_ediv_of_nonneg, Int.tmod_eq_emod_of_nonneg]; rfl), aH HB⟩
        ·rw [if_neg c33] at H
         have c33b0 : decide (a0 < 0) = false := decide_eq_false c33
         clear c33
         simp only [Option.some.injEq, Prod.mk.injEq] at H
         obtain ⟨rfl, rfl⟩ := H
         go_wp2
         go_ret2
         exact ⟨by first | rfl | (simp [errW_none, errW_some] <;> rfl) | (simp only [← hji27]; first | rfl | (simp [errW_none, errW_some] <;> rfl)) | (simp [*, errW_none, errW_some] <;> rfl) | (simp (disch := first | assumption | omega) only [Int.tdiv_eq_ediv_of_nonneg, Int.tmod_eq_emod_of_nonneg]; rfl), aH HB⟩

end Go.Proofs.Yteoieencagcgdaa.PX
end
section
namespace Go.Proofs.Yteoieencagcgdaa.PX
open Go.RowKit Go.Proofs.YteoieencagcgdaaW.PrintWords Go.Proofs.YteoieencagcgdaaW.PrintLast Go.Proofs.YteoieencagcgdaaW.PrintMore
attribute [local go_sem] max2_int min2_int max_two min_two max_three min_three max_four min_four
set_option linter.unusedVariables false
set_option linter.unusedSimpArgs false

def currency_Cross.f (k : Nat) (l0 : List (S61)) (a1 : Int) (a2 : ByteArray) (a3 : ByteArray) (a4 : Int) (a5 : Int) : Option (Int × Int) := (currency_At.f k l0 a2 a4).bind fun bt212 => (if bt212.2 = 0 then ((currency_At.f k l0 a3 a4).bind fun bt214 => (if bt214.2 = 0 then ((money_Scale.f k a1 bt212.1 bt214.1 a5).bind fun bt216 => (some (bt216.1, bt216.2))) else (some (0, bt214.2)))) else (some (0, bt212.2)))
set_option maxHeartbeats 8000000 in
set_option maxRecDepth 100000 in
theorem currency_Cross.calls (k : Nat) (A0 : Option Addr) (c0 : Nat) (l0 : List (S61)) (a1 : Int) (a2 : ByteArray) (a3 : ByteArray) (a4 : Int) (a5 : Int) (r1 : Int) (r2 : Int) (w : World) (hr0 : Kd.C k61 w A0 l0.length l0) (hc0 : l0.length ≤ c0) (h : currency_Cross.f k l0 a1 a2 a3 a4 a5 = some (r1, r2)) :
   Calls Try.prog 38 #[.slice A0 l0.length c0, .int .i64 a1, .string a2, .string a3, .int .i64 a4, .int .i64 a5] w fun e w' => e = .returned (.tuple #[.int .i64 r1, .int .i64 r2]) ∧ Below w.heap.size w w' := by
  have HR0 := Aside0.mk hr0
  have HC0 := Aside0.mk hc0
  clear hr0 hc0
  have HB := Aside0.mk (Below.refl w.heap.size w)
  have H : ((currency_At.f k l0 a2 a4).bind fun bt212 => (if bt212.2 = 0 then ((currency_At.f k l0 a3 a4).bind fun bt214 => (if bt214.2 = 0 then ((money_Scale.f k a1 bt212.1 bt214.1 a5).bind fun bt216 => (some (bt216.1, bt216.2))) else (some (0, bt214.2)))) else (some (0, bt212.2)))) = some (r1, r2) := h
  clear h
  replace H := Option.bind_eq_some_iff.mp H
  obtain ⟨⟨t212, t213⟩, A70, H⟩ := H
  replace H : (if t213 = 0 then ((currency_At.f k l0 a3 a4).bind fun bt214 => (if bt214.2 = 0 then ((money_Scale.f k a1 t212 bt214.1 a5).bind fun bt216 => (some (bt216.1, bt216.2))) else (some (0, bt214.2)))) else (some (0, t213))) = some (r1, r2) := H
  have A7 := Aside0.mk A70
  clear A70
  by_cases c8 : t213 = 0
  ·rw [if_pos c8] at H
   have c8b0 : (t213 == 0) = true := beq_iff_eq.mpr c8
   have c8b1 : (t213 != 0) = false := bne_eq_false_iff_eq.mpr c8
   clear c8
   replace H := Option.bind_eq_some_iff.mp H
   obtain ⟨⟨t214, t215⟩, A90, H⟩ := H
   replace H : (if t215 = 0 then ((money_Scale.f k a1 t212 t214 a5).bind fun bt216 => (some (bt216.1, bt216.2))) else (some (0, t215))) = some (r1, r2) := H
   have A9 := Aside0.mk A90
   clear A90
   by_cases c10 : t215 = 0
   ·rw [if_pos c10] at H
    have c10b0 : (t215 == 0) = true := beq_iff_eq.mpr c10
    have c10b1 : (t215 != 0) = false := bne_eq_false_iff_eq.mpr c10
    clear c10
    replace H := Option.bind_eq_some_iff.mp H
    obtain ⟨⟨t216, t217⟩, A110, H⟩ := H
    replace H : (some (t216, t217)) = some (r1, r2) := H
    have A11 := Aside0.mk A110
    clear A110
    simp only [Option.some.injEq, Prod.mk.injEq] at H
    obtain ⟨rfl, rfl⟩ := H
    go_enter Try.func38, Try.ntmps38
    go_wp2_with (first | ((with_reducible refine gate_callee (f := 49) rfl ?_); refine goA (some 21) Try.func49 #[.slice A0 l0.length c0, .string a2, .int .i64 a4] ?_; (with_reducible refine (currency_At.calls k _ _ l0 a2 a4 t212 t213 _ ?side1 ?side2 A7.out).mono ?_); (case side1 => repeat (first | exact HR0.out | (with_reducible refine Kd.C_alloc ?_ _) | (with_reducible refine Kd.C_drewN ?_ _) | (with_reducible refine Kd.C_drew ?_))); (case side2 => exact HC0.out); rintro e w12 ⟨rfl, hb⟩; refine ⟨_, rfl, ?_⟩; have n0_ := hB HB hb; clear HB; have HB := n0_; clear n0_; clear hb) | ((with_reducible refine gate_callee (f := 49) rfl ?_); refine goA (some 31) Try.func49 #[.slice A0 l0.length c0, .string a3, .int .i64 a4] ?_; (with_reducible refine (currency_At.calls k _ _ l0 a3 a4 t214 t215 _ ?side1 ?side2 A9.out).mono ?_); (case side1 => repeat (first | exact (Kd.C_below HR0.out HB.out) | (with_reducible refine Kd.C_alloc ?_ _) | (with_reducible refine Kd.C_drewN ?_ _) | (with_reducible refine Kd.C_drew ?_))); (case side2 => exact HC0.out); rintro e w13 ⟨rfl, hb⟩; refine ⟨_, rfl, ?_⟩; have n0_ := hB HB hb; clear HB; have HB := n0_; clear n0_; clear hb) | ((with_reducible refine gate_callee (f := 50) rfl ?_); refine goA (some 41) Try.func50 #[.int .i64 a1, .int .i64 t212, .int .i64 t214, .int .i64 a5] ?_; (with_reducible refine (money_Scale.calls k a1 t212 t214 a5 t216 t217 _ A11.out).mono ?_); rintro e w14 ⟨rfl, hb⟩; refine ⟨_, rfl, ?_⟩; have n0_ := hB HB hb; clear HB; have HB := n0_; clear n0_; clear hb))
    go_ret2
    exact ⟨by first | rfl | (simp [errW_none, errW_some] <;> rfl) | (simp [*, errW_none, errW_some] <;> rfl) | (simp (disch := first | assumption | omega) only [Int.tdiv_eq_ediv_of_nonneg, Int.tmod_eq_emod_of_nonneg]; rfl), aH HB⟩
   ·rw [if_neg c10] at H
    have c10b0 : (t215 == 0) = false := beq_eq_false_iff_ne.mpr c10
    have c10b1 : (t215 != 0) = true := bne_iff_ne.mpr c10
    simp only [Option.some.injEq, Prod.mk.injEq] at H
    obtain ⟨rfl, rfl⟩ := H
    go_enter Try.func38, Try.ntmps38
    go_wp2_with (first | ((with_reducible refine gate_callee (f := 49) rfl ?_); refine goA (some 21) Try.func49 #[.slice A0 l0.length c0, .string a2, .int .i64 a4] ?_; (with_reducible refine (currency_At.calls k _ _ l0 a2 a4 t212 t213 _ ?side1 ?side2 A7.out).mono ?_); (case side1 => repeat (first | exact HR0.out | (with_reducible refine Kd.C_alloc ?_ _) | (with_reducible refine Kd.C_drewN ?_ _) | (with_reducible refine Kd.C_drew ?_))); (case side2 => exact HC0.out); rintro e w15 ⟨rfl, hb⟩; refine ⟨_, rfl, ?_⟩; have n0_ := hB HB hb; clear HB; have HB := n0_; clear n0_; clear hb) | ((with_reducible refine gate_callee (f := 49) rfl ?_); refine goA (some 31) Try.func49 #[.slice A0 l0.length c0, .string a3, .int .i64 a4] ?_; (with_reducible refine (currency_At.calls k _ _ l0 a3 a4 t214 t215 _ ?side1 ?side2 A9.out).mono ?_); (case side1 => repeat (first | exact (Kd.C_below HR0.out HB.out) | (with_reducible refine Kd.C_alloc ?_ _) | (with_reducible refine Kd.C_drewN ?_ _) | (with_reducible refine Kd.C_drew ?_))); (case side2 => exact HC0.out); rintro e w16 ⟨rfl, hb⟩; refine ⟨_, rfl, ?_⟩; have n0_ := hB HB hb; clear HB; have HB := n0_; clear n0_; clear hb))
    go_ret2
    exact ⟨by first | rfl | (simp [errW_none, errW_some] <;> rfl) | (simp [*, errW_none, errW_some] <;> rfl) | (simp (disch := first | assumption | omega) only [Int.tdiv_eq_ediv_of_nonneg, Int.tmod_eq_emod_of_nonneg]; rfl), aH HB⟩
  ·rw [if_neg c8] at H
   have c8b0 : (t213 == 0) = false := beq_eq_false_iff_ne.mpr c8
   have c8b1 : (t213 != 0) = true := bne_iff_ne.mpr c8
   simp only [Option.some.injEq, Prod.mk.injEq] at H
   obtain ⟨rfl, rfl⟩ := H
   go_enter Try.func38, Try.ntmps38
   go_wp2_with (first | ((with_reducible refine gate_callee (f := 49) rfl ?_); refine goA (some 21) Try.func49 #[.slice A0 l0.length c0, .string a2, .int .i64 a4] ?_; (with_reducible refine (currency_At.calls k _ _ l0 a2 a4 t212 t213 _ ?side1 ?side2 A7.out).mono ?_); (case side1 => repeat (first | exact HR0.out | (with_reducible refine Kd.C_alloc ?_ _) | (with_reducible refine Kd.C_drewN ?_ _) | (with_reducible refine Kd.C_drew ?_))); (case side2 => exact HC0.out); rintro e w17 ⟨rfl, hb⟩; refine ⟨_, rfl, ?_⟩; have n0_ := hB HB hb; clear HB; have HB := n0_; clear n0_; clear hb))
   go_ret2
   exact ⟨by first | rfl | (simp [errW_none, errW_some] <;> rfl) | (simp [*, errW_none, errW_some] <;> rfl) | (simp (disch := first | assumption | omega) only [Int.tdiv_eq_ediv_of_nonneg, Int.tmod_eq_emod_of_nonneg]; rfl), aH HB⟩

end Go.Proofs.Yteoieencagcgdaa.PX
end
section
namespace Go.Proofs.Yteoieencagcgdaa.PX
open Go.RowKit Go.Proofs.YteoieencagcgdaaW.PrintWords Go.Proofs.YteoieencagcgdaaW.PrintLast Go.Proofs.YteoieencagcgdaaW.PrintMore
attribute [local go_sem] max2_int min2_int max_two min_two max_three min_three max_four min_four
set_option linter.unusedVariables false
set_option linter.unusedSimpArgs false

def currency_Convert.f (k : Nat) (l0 : List (S61)) (a1 : Int) (a2 : ByteArray) (a3 : Int) (a4 : Int) : Option (Int × Int) := (currency_Cross.f k l0 a1 a2 (⟨#[69, 85, 82]⟩ : ByteArray) a3 a4).bind fun bt218 => (some (bt218.1, bt218.2))
set_option maxHeartbeats 8000000 in
set_option maxRecDepth 100000 in
theorem currency_Convert.calls (k : Nat) (A0 : Option Addr) (c0 : Nat) (l0 : List (S61)) (a1 : Int) (a2 : ByteArray) (a3 : Int) (a4 : Int) (r1 : Int) (r2 : Int) (w : World) (hr0 : Kd.C k61 w A0 l0.length l0) (hc0 : l0.length ≤ c0) (h : currency_Convert.f k l0 a1 a2 a3 a4 = some (r1, r2)) :
   Calls Try.prog 21 #[.slice A0 l0.length c0, .int .i64 a1, .string a2, .int .i64 a3, .int .i64 a4] w fun e w' => e = .returned (.tuple #[.int .i64 r1, .int .i64 r2]) ∧ Below w.heap.size w w' := by
  have HR0 := Aside0.mk hr0
  have HC0 := Aside0.mk hc0
  clear hr0 hc0
  have HB := Aside0.mk (Below.refl w.heap.size w)
  have H : ((currency_Cross.f k l0 a1 a2 (⟨#[69, 85, 82]⟩ : ByteArray) a3 a4).bind fun bt218 => (some (bt218.1, bt218.2))) = some (r1, r2) := h
  clear h
  replace H := Option.bind_eq_some_iff.mp H
  obtain ⟨⟨t218, t219⟩, A60, H⟩ := H
  replace H : (some (t218, t219)) = some (r1, r2) := H
  have A6 := Aside0.mk A60
  clear A60
  simp only [Option.some.injEq, Prod.mk.injEq] at H
  obtain ⟨rfl, rfl⟩ := H
  go_enter Try.func21, Try.ntmps21
  go_wp2_with (first | ((with_reducible refine gate_callee (f := 38) rfl ?_); refine goA (some 17) Try.func38 #[.slice A0 l0.length c0, .int .i64 a1, .string a2, .string (⟨#[69, 85, 82]⟩ : ByteArray), .int .i64 a3, .int .i64 a4] ?_; (with_reducible refine (currency_Cross.calls k _ _ l0 a1 a2 (⟨#[69, 85, 82]⟩ : ByteArray) a3 a4 t218 t219 _ ?side1 ?side2 A6.out).mono ?_); (case side1 => repeat (first | exact HR0.out | (with_reducible refine Kd.C_alloc ?_ _) | (with_reducible refine Kd.C_drewN ?_ _) | (with_reducible refine Kd.C_drew ?_))); (case side2 => exact HC0.out); rintro e w7 ⟨rfl, hb⟩; refine ⟨_, rfl, ?_⟩; have n0_ := hB HB hb; clear HB; have HB := n0_; clear n0_; clear hb))
  go_ret2
  exact ⟨by first | rfl | (simp [errW_none, errW_some] <;> rfl) | (simp [*, errW_none, errW_some] <;> rfl) | (simp (disch := first | assumption | omega) only [Int.tdiv_eq_ediv_of_nonneg, Int.tmod_eq_emod_of_nonneg]; rfl), aH HB⟩

end Go.Proofs.Yteoieencagcgdaa.PX
end
