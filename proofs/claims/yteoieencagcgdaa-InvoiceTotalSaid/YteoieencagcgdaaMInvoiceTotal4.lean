/- Texts of this session joined by a small program: plain Lean functions with the answers of Go functions of this seat, proofs that the machine's calls come to them, and plain laws over them that the claim InvoiceTotal uses. -/
import Derived.Below
import Derived.Deep.Draws
import Derived.Deep.AppendLies
import Derived.Maps.AppendAt
import Derived.OwnWalk
import Derived.Laws.BytesArg
import Derived.Laws.MakeOwn
import Derived.Laws.OwnMore
import Derived.Deep.OwnRows
import Derived.Tactics
import Derived.Lib.ConvBytes
import Derived.Laws.Slices
import Derived.WalkKit
import Derived.KernelRfl
import Derived.RowKit3
import Derived.Deep.LoopGhost
import Derived.Deep.QuietTactic
import Derived.BigQuiet
import Derived.WideLaws
import Derived.Deep.DeepCutAuto
import Derived.Deep.CutBlock
import Derived.Deep.RegionHeld3
import Derived.Laws.Rows
import Derived.Lib.AppendStr
import Derived.ArgAppend
import Derived.Laws.IdiomCopy
import Derived.RowKit
import Derived.OrdersHeld
import Derived.Laws.BitsLemmas
import Derived.Laws.StructEq
import Derived.Test.YteoieencagcgdaaProg
import Derived.RegionTactic
import Derived.Maps.Own
import Derived.Maps.OwnOps
import Derived.Maps.OwnSet
import Derived.Laws.Externs
import Derived.WalkLawsBesides
import Derived.Deep.RegionLaw
import Derived.IntWalk
import Derived.Laws.Bits64
import Derived.Sort.Walk0
import Derived.SizedLaws
import Derived.ChangeSlices
import Derived.Test.YteoieencagcgdaaMInvoiceTotal3
section
namespace Go.Proofs.Yteoieencagcgdaa.PX
open Go.RowKit Go.Proofs.YteoieencagcgdaaW.PrintWords Go.Proofs.YteoieencagcgdaaW.PrintLast Go.Proofs.YteoieencagcgdaaW.PrintMore
attribute [local go_sem] max2_int min2_int max_two min_two max_three min_three max_four min_four
set_option linter.unusedVariables false
set_option linter.unusedSimpArgs false

mutual
def valuation_Values.l0 : Nat → List (S61) → List Int → List (S33) → Int → Int → ByteArray → Int → List (S35) → List (S33) → Option (List Int × Int)
  | 0, _, _, _, _, _, _, _, _, _ => none
  | k + 1, x0, x12, x58, x59, x60, x236000, x236001, x236002, x236003 => if x60 < x59 then (if 0 ≤ x60 then (if x60 < (x58.length : Int) then ((valuation_sign.f ((rd_T33 x58 x60).f0)).bind fun t257 => (if t257 = 0 then (valuation_Values.l0 k x0 x12 x58 x59 (wrap64 (x60 + 1)) x236000 x236001 x236002 x236003) else ((currency_Convert.f k x0 ((rd_T33 x58 x60).f1) ((rd_T33 x58 x60).f2) x236001 2).bind fun bt258 => (if bt258.2 = 0 then ((valuation_divide.f k x236000 x236001 x236002 x236003 ((rd_T33 x58 x60).f0) ((rd_T33 x58 x60).f1) ((rd_T33 x58 x60).f2) ((rd_T33 x58 x60).f3) ((rd_T33 x58 x60).f4) bt258.1).bind fun t260 => (valuation_Values.l1 k x0 x12 x58 x59 x60 t260 (t260.length : Int) 0 x236000 x236001 x236002 x236003 ((rd_T33 x58 x60).f0) ((rd_T33 x58 x60).f1) ((rd_T33 x58 x60).f2) ((rd_T33 x58 x60).f3) ((rd_T33 x58 x60).f4))) else (some (([] : List Int), bt258.2)))))) else (none)) else (none)) else ((valuation_checked.f k x12).bind fun bt251 => (some (bt251.1, bt251.2)))
def valuation_Values.l1 : Nat → List (S61) → List Int → List (S33) → Int → Int → List Int → Int → Int → ByteArray → Int → List (S35) → List (S33) → Int → Int → ByteArray → Int → Int → Option (List Int × Int)
  | 0, _, _, _, _, _, _, _, _, _, _, _, _, _, _, _, _, _ => none
  | k + 1, x0, x12, x58, x59, x60, x85, x86, x87, x236000, x236001, x236002, x236003, x257000, x257001, x257002, x257003, x257004 => if x87 < x86 then (if 0 ≤ x87 then (if x87 < (x85.length : Int) then (if x87 < (x12.length : Int) then ((valuation_sign.f x257000).bind fun t265 => (valuation_Values.l1 k x0 (x12.set (x87 : Int).toNat (wrap64 ((rd x12 x87) + (wrap64 (t265 * (rd x85 x87)))))) x58 x59 x60 x85 x86 (wrap64 (x87 + 1)) x236000 x236001 x236002 x236003 x257000 x257001 x257002 x257003 x257004)) else (none)) else (none)) else (none)) else (valuation_Values.l0 k x0 x12 x58 x59 (wrap64 (x60 + 1)) x236000 x236001 x236002 x236003)
end
def valuation_Values.f (k : Nat) (l0 : List (S61)) (a1_0 : ByteArray) (a1_1 : Int) (l1_2 : List (S35)) (l1_3 : List (S33)) : Option (List Int × Int) := (valuation_Validate.f k a1_0 a1_1 l1_2 l1_3).bind fun t236 => (if t236 = 0 then ((valuation_weights.f a1_0 a1_1 l1_2 l1_3).bind fun bt237 => ((money_Sum.f k bt237.1).bind fun bt243 => (if bt243.2 = 0 then ((currency_Convert.f k l0 bt243.1 a1_0 a1_1 2).bind fun bt245 => (if bt245.2 = 0 then ((apportion_Share.f k bt245.1 bt237.1).bind fun bt247 => (valuation_Values.l0 k l0 bt247.1 l1_3 (l1_3.length : Int) 0 a1_0 a1_1 l1_2 l1_3)) else (some (([] : List Int), bt245.2)))) else (some (([] : List Int), bt243.2))))) else (some (([] : List Int), t236)))
def valuation_Values.T22 : Bool × List (List Nat × List Nat) := (true, [([], []), ([], []), ([0, 1], [0, 1]), ([2], [2]), ([], []), ([4], [4]), ([5], [5]), ([], []), ([6, 7], [6, 7]), ([3, 8], [3, 8]), ([0, 1, 0, 1, 2, 3, 4, 5, 6, 7, 8, 9], [0, 1]), ([10, 9, 6, 0, 1, 2, 3, 4, 5, 6, 7, 8, 9], [9, 10])])
def valuation_Values.B22 : List Nat := [0, 0, 3, 7, 0, 16, 48, 0, 240, 511, 1023, 2047]
theorem valuation_Values.tab22 : rtab .any (opsOf Try.f16 22) = valuation_Values.T22 := by kernel_rfl
theorem valuation_Values.bits22 : waitsOk valuation_Values.T22.2 valuation_Values.B22 = true := by kernel_rfl
set_option maxHeartbeats 8000000 in
set_option maxRecDepth 100000 in
theorem valuation_Values.calls (k : Nat) (A0 : Option Addr) (c0 : Nat) (l0 : List (S61)) (a1_0 : ByteArray) (a1_1 : Int) (A1_2 : Option Addr) (c1_2 : Nat) (l1_2 : List (S35)) (A1_3 : Option Addr) (c1_3 : Nat) (l1_3 : List (S33)) (r1 : List Int) (r2 : Int) (w : World) (hr0 : Kd.C k61 w A0 l0.length l0) (hc0 : l0.length ≤ c0) (hr1_2 : Kd.C k35 w A1_2 l1_2.length l1_2) (hc1_2 : l1_2.length ≤ c1_2) (hr1_3 : Kd.C k33 w A1_3 l1_3.length l1_3) (hc1_3 : l1_3.length ≤ c1_3) (h : valuation_Values.f k l0 a1_0 a1_1 l1_2 l1_3 = some (r1, r2)) :
   Calls Try.prog 16 #[.slice A0 l0.length c0, .agg #[.string a1_0, .int .i64 a1_1, .slice A1_2 l1_2.length c1_2, .slice A1_3 l1_3.length c1_3]] w fun e w' => ∃ v0_ : Value, e = .returned (.tuple #[v0_, .int .i64 r2]) ∧ Kd.R (Kd.int .i64) 3 w' w.heap.size (fun _ => True) v0_ r1 ∧ Below w.heap.size w w' := by
  have hu25 := Try.underlying25
  have hu33 := Try.underlying33
  have HR0 := Aside0.mk hr0
  have HC0 := Aside0.mk hc0
  clear hr0 hc0
  have HR1_2 := Aside0.mk hr1_2
  have HC1_2 := Aside0.mk hc1_2
  clear hr1_2 hc1_2
  have HR1_3 := Aside0.mk hr1_3
  have HC1_3 := Aside0.mk hc1_3
  clear hr1_3 hc1_3
  have HB := Aside0.mk (Below.refl w.heap.size w)
  have H : ((valuation_Validate.f k a1_0 a1_1 l1_2 l1_3).bind fun t236 => (if t236 = 0 then ((valuation_weights.f a1_0 a1_1 l1_2 l1_3).bind fun bt237 => ((money_Sum.f k bt237.1).bind fun bt243 => (if bt243.2 = 0 then ((currency_Convert.f k l0 bt243.1 a1_0 a1_1 2).bind fun bt245 => (if bt245.2 = 0 then ((apportion_Share.f k bt245.1 bt237.1).bind fun bt247 => (valuation_Values.l0 k l0 bt247.1 l1_3 (l1_3.length : Int) 0 a1_0 a1_1 l1_2 l1_3)) else (some (([] : List Int), bt245.2)))) else (some (([] : List Int), bt243.2))))) else (some (([] : List Int), t236)))) = some (r1, r2) := h
  clear h
  replace H := Option.bind_eq_some_iff.mp H
  obtain ⟨t236, A30, H⟩ := H
  replace H : (if t236 = 0 then ((valuation_weights.f a1_0 a1_1 l1_2 l1_3).bind fun bt237 => ((money_Sum.f k bt237.1).bind fun bt243 => (if bt243.2 = 0 then ((currency_Convert.f k l0 bt243.1 a1_0 a1_1 2).bind fun bt245 => (if bt245.2 = 0 then ((apportion_Share.f k bt245.1 bt237.1).bind fun bt247 => (valuation_Values.l0 k l0 bt247.1 l1_3 (l1_3.length : Int) 0 a1_0 a1_1 l1_2 l1_3)) else (some (([] : List Int), bt245.2)))) else (some (([] : List Int), bt243.2))))) else (some (([] : List Int), t236))) = some (r1, r2) := H
  have A3 := Aside0.mk A30
  clear A30
  by_cases c4 : t236 = 0
  ·rw [if_pos c4] at H
   have c4b0 : (t236 == 0) = true := beq_iff_eq.mpr c4
   have c4b1 : (t236 != 0) = false := bne_eq_false_iff_eq.mpr c4
   clear c4
   replace H := Option.bind_eq_some_iff.mp H
   obtain ⟨⟨t237, t240⟩, A50, H⟩ := H
   replace H : ((money_Sum.f k t237).bind fun bt243 => (if bt243.2 = 0 then ((currency_Convert.f k l0 bt243.1 a1_0 a1_1 2).bind fun bt245 => (if bt245.2 = 0 then ((apportion_Share.f k bt245.1 t237).bind fun bt247 => (valuation_Values.l0 k l0 bt247.1 l1_3 (l1_3.length : Int) 0 a1_0 a1_1 l1_2 l1_3)) else (some (([] : List Int), bt245.2)))) else (some (([] : List Int), bt243.2)))) = some (r1, r2) := H
   have A5 := Aside0.mk A50
   clear A50
   replace H := Option.bind_eq_some_iff.mp H
   obtain ⟨⟨t243, t244⟩, A60, H⟩ := H
   replace H : (if t244 = 0 then ((currency_Convert.f k l0 t243 a1_0 a1_1 2).bind fun bt245 => (if bt245.2 = 0 then ((apportion_Share.f k bt245.1 t237).bind fun bt247 => (valuation_Values.l0 k l0 bt247.1 l1_3 (l1_3.length : Int) 0 a1_0 a1_1 l1_2 l1_3)) else (some (([] : List Int), bt245.2)))) else (some (([] : List Int), t244))) = some (r1, r2) := H
   have A6 := Aside0.mk A60
   clear A60
   by_cases c7 : t244 = 0
   ·rw [if_pos c7] at H
    have c7b0 : (t244 == 0) = true := beq_iff_eq.mpr c7
    have c7b1 : (t244 != 0) = false := bne_eq_false_iff_eq.mpr c7
    clear c7
    replace H := Option.bind_eq_some_iff.mp H
    obtain ⟨⟨t245, t246⟩, A80, H⟩ := H
    replace H : (if t246 = 0 then ((apportion_Share.f k t245 t237).bind fun bt247 => (valuation_Values.l0 k l0 bt247.1 l1_3 (l1_3.length : Int) 0 a1_0 a1_1 l1_2 l1_3)) else (some (([] : List Int), t246))) = some (r1, r2) := H
    have A8 := Aside0.mk A80
    clear A80
    by_cases c9 : t246 = 0
    ·rw [if_pos c9] at H
     have c9b0 : (t246 == 0) = true := beq_iff_eq.mpr c9
     have c9b1 : (t246 != 0) = false := bne_eq_false_iff_eq.mpr c9
     clear c9
     replace H := Option.bind_eq_some_iff.mp H
     obtain ⟨⟨t247, t248⟩, A100, H⟩ := H
     replace H : (valuation_Values.l0 k l0 t247 l1_3 (l1_3.length : Int) 0 a1_0 a1_1 l1_2 l1_3) = some (r1, r2) := H
     have A10 := Aside0.mk A100
     clear A100
     have H' := Aside0.mk H
     clear H
     go_enter Try.func16, Try.ntmps16
     go_wp2_with (first | ((with_reducible refine gate_dst (N := 3) rfl ?_); refine boxA (N := 3) (cs := #[.string a1_0, .int .i64 a1_1, .slice A1_2 l1_2.length c1_2, .slice A1_3 l1_3.length c1_3]) (t := 25) ?_; intro gb235 hg w11 hbox hb; have n0_ := hB HB hb; have n1_ := Aside0.mk (hbox); have n2_ := gW hg HB; have n3_ := gW hg HB; clear HB; have HB := n0_; have BK235 := n1_; have GW235 := n2_; have GE235 := n3_; clear n0_ n1_ n2_ n3_; clear hb hbox hg; have hcz12_0 : w11.cell? ⟨gb235, 0, none⟩ = some (.string a1_0) := lc BK235 0; have hcz12_1 : w11.cell? ⟨gb235, 1, none⟩ = some (.int .i64 a1_1) := lc BK235 1; have hcz12_2 : w11.cell? ⟨gb235, 2, none⟩ = some (.slice A1_2 l1_2.length c1_2) := lc BK235 2; have hcz12_3 : w11.cell? ⟨gb235, 3, none⟩ = some (.slice A1_3 l1_3.length c1_3) := lc BK235 3; have hfz12_0 := fz BK235 0; have hfz12_1 := fz BK235 1; have hfz12_2 := fz BK235 2; have hfz12_3 := fz BK235 3) | ((with_reducible refine gate_callee (f := 11) rfl ?_); refine goA (some 21) Try.func11 #[.agg #[.string a1_0, .int .i64 a1_1, .slice A1_2 l1_2.length c1_2, .slice A1_3 l1_3.length c1_3]] ?_; (with_reducible refine (valuation_Validate.calls k a1_0 a1_1 _ _ l1_2 _ _ l1_3 t236 _ ?side1 ?side2 ?side3 ?side4 A3.out).mono ?_); (case side1 => repeat (first | exact (Kd.C_below HR1_2.out HB.out) | (with_reducible refine Kd.C_alloc ?_ _) | (with_reducible refine Kd.C_drewN ?_ _) | (with_reducible refine Kd.C_drew ?_))); (case side2 => exact HC1_2.out); (case side3 => repeat (first | exact (Kd.C_below HR1_3.out HB.out) | (with_reducible refine Kd.C_alloc ?_ _) | (with_reducible refine Kd.C_drewN ?_ _) | (with_reducible refine Kd.C_drew ?_))); (case side4 => exact HC1_3.out); rintro e w13 ⟨rfl, hb⟩; refine ⟨_, rfl, ?_⟩; have n0_ := bB BK235 hb; have n1_ := hB HB hb; clear BK235; clear HB; have BK235 := n0_; have HB := n1_; clear n0_ n1_; have hcz14_0 : w13.cell? ⟨gb235, 0, none⟩ = some (.string a1_0) := lc BK235 0; have hcz14_1 : w13.cell? ⟨gb235, 1, none⟩ = some (.int .i64 a1_1) := lc BK235 1; have hcz14_2 : w13.cell? ⟨gb235, 2, none⟩ = some (.slice A1_2 l1_2.length c1_2) := lc BK235 2; have hcz14_3 : w13.cell? ⟨gb235, 3, none⟩ = some (.slice A1_3 l1_3.length c1_3) := lc BK235 3; have hfz14_0 := fz BK235 0; have hfz14_1 := fz BK235 1; have hfz14_2 := fz BK235 2; have hfz14_3 := fz BK235 3; clear hb) | ((with_reducible refine gate_callee (f := 29) rfl ?_); refine goA (some 27) Try.func29 #[.agg #[.string a1_0, .int .i64 a1_1, .slice A1_2 l1_2.length c1_2, .slice A1_3 l1_3.length c1_3]] ?_; (with_reducible refine (valuation_weights.calls a1_0 a1_1 _ _ l1_2 _ _ l1_3 t237 t240 _ ?side1 ?side2 ?side3 ?side4 A5.out).mono ?_); (case side1 => repeat (first | exact (Kd.C_below HR1_2.out HB.out) | (with_reducible refine Kd.C_alloc ?_ _) | (with_reducible refine Kd.C_drewN ?_ _) | (with_reducible refine Kd.C_drew ?_))); (case side2 => exact HC1_2.out); (case side3 => repeat (first | exact (Kd.C_below HR1_3.out HB.out) | (with_reducible refine Kd.C_alloc ?_ _) | (with_reducible refine Kd.C_drewN ?_ _) | (with_reducible refine Kd.C_drew ?_))); (case side4 => exact HC1_3.out); rintro e w15 ⟨v238, v241, rfl, ho0, ho1, hb⟩; refine ⟨_, rfl, ?_⟩; have n0_ := rL ho0 HB; have n1_ := rL ho1 HB; have n2_ := bB BK235 hb; have n3_ := hB HB hb; clear BK235; clear HB; have HO239 := n0_; have HO242 := n1_; have BK235 := n2_; have HB := n3_; clear n0_ n1_ n2_ n3_; obtain ⟨Ao16, co16, eo16⟩ := Kd.R_slice HO239.out; subst eo16; clear hb ho0 ho1) | ((with_reducible refine gate_callee (f := 30) rfl ?_); refine goA (some 32) Try.func30 #[.slice Ao16 t237.length co16] ?_; (with_reducible refine (money_Sum.calls k _ _ t237 t243 t244 _ ?side1 ?side2 A6.out).mono ?_); (case side1 => repeat (first | exact (Kd.R_reads' HO239.out).2.2 | (with_reducible refine Kd.C_alloc ?_ _) | (with_reducible refine Kd.C_drewN ?_ _) | (with_reducible refine Kd.C_drew ?_))); (case side2 => exact (Kd.R_reads' HO239.out).2.1); rintro e w17 ⟨rfl, hb⟩; refine ⟨_, rfl, ?_⟩; have n0_ := rB HO239 hb; have n1_ := rB HO242 hb; have n2_ := bB BK235 hb; have n3_ := hB HB hb; clear HO239; clear HO242; clear BK235; clear HB; have HO239 := n0_; have HO242 := n1_; have BK235 := n2_; have HB := n3_; clear n0_ n1_ n2_ n3_; have hcz18_0 : w17.cell? ⟨gb235, 0, none⟩ = some (.string a1_0) := lc BK235 0; have hcz18_1 : w17.cell? ⟨gb235, 1, none⟩ = some (.int .i64 a1_1) := lc BK235 1; have hcz18_2 : w17.cell? ⟨gb235, 2, none⟩ = some (.slice A1_2 l1_2.length c1_2) := lc BK235 2; have hcz18_3 : w17.cell? ⟨gb235, 3, none⟩ = some (.slice A1_3 l1_3.length c1_3) := lc BK235 3; have hfz18_0 := fz BK235 0; have hfz18_1 := fz BK235 1; have hfz18_2 := fz BK235 2; have hfz18_3 := fz BK235 3; clear hb) | ((with_reducible refine gate_callee (f := 21) rfl ?_); refine goA (some 45) Try.func21 #[.slice A0 l0.length c0, .int .i64 t243, .string a1_0, .int .i64 a1_1, .int .i64 2] ?_; (with_reducible refine (currency_Convert.calls k _ _ l0 t243 a1_0 a1_1 2 t245 t246 _ ?side1 ?side2 A8.out).mono ?_); (case side1 => repeat (first | exact (Kd.C_below HR0.out HB.out) | (with_reducible refine Kd.C_alloc ?_ _) | (with_reducible refine Kd.C_drewN ?_ _) | (with_reducible refine Kd.C_drew ?_))); (case side2 => exact HC0.out); rintro e w19 ⟨rfl, hb⟩; refine ⟨_, rfl, ?_⟩; have n0_ := rB HO239 hb; have n1_ := rB HO242 hb; have n2_ := bB BK235 hb; have n3_ := hB HB hb; clear HO239; clear HO242; clear BK235; clear HB; have HO239 := n0_; have HO242 := n1_; have BK235 := n2_; have HB := n3_; clear n0_ n1_ n2_ n3_; clear hb) | ((with_reducible refine gate_callee (f := 31) rfl ?_); refine goA (some 54) Try.func31 #[.int .i64 t245, .slice Ao16 t237.length co16] ?_; (with_reducible refine (apportion_Share.calls k t245 _ _ t237 t247 t248 _ ?side1 ?side2 A10.out).mono ?_); (case side1 => repeat (first | exact (Kd.R_reads' HO239.out).2.2 | (with_reducible refine Kd.C_alloc ?_ _) | (with_reducible refine Kd.C_drewN ?_ _) | (with_reducible refine Kd.C_drew ?_))); (case side2 => exact (Kd.R_reads' HO239.out).2.1); rintro e w20 ⟨v249, rfl, ho0, hb⟩; refine ⟨_, rfl, ?_⟩; have n0_ := Aside0.mk (Kd.R_elder' (aR HO239) (Kd.R_base ho0) hb); have n1_ := Aside0.mk (Kd.R_elder' (aR HO242) (Kd.R_base ho0) hb); have n2_ := Aside0.mk (Kd.R_lower (Kd.R_new' (Kd.R_new' ho0 (Kd.R_lt (aR HO239))) (Kd.R_lt (aR HO242))) (below_size (aH HB))); have n3_ := bB BK235 hb; have n4_ := hB HB hb; clear HO239; clear HO242; clear BK235; clear HB; have HO239 := n0_; have HO242 := n1_; have HO250 := n2_; have BK235 := n3_; have HB := n4_; clear n0_ n1_ n2_ n3_ n4_; have hcz21_0 : w20.cell? ⟨gb235, 0, none⟩ = some (.string a1_0) := lc BK235 0; have hcz21_1 : w20.cell? ⟨gb235, 1, none⟩ = some (.int .i64 a1_1) := lc BK235 1; have hcz21_2 : w20.cell? ⟨gb235, 2, none⟩ = some (.slice A1_2 l1_2.length c1_2) := lc BK235 2; have hcz21_3 : w20.cell? ⟨gb235, 3, none⟩ = some (.slice A1_3 l1_3.length c1_3) := lc BK235 3; have hfz21_0 := fz BK235 0; have hfz21_1 := fz BK235 1; have hfz21_2 := fz BK235 2; have hfz21_3 := fz BK235 3; clear hb ho0))
     go_loopg [60] k (fun kq v60 w' => ∃ (x12_1 : List Int) (x60_1 : Int), v60 = .int .i64 x60_1 ∧ Aside0 (valuation_Values.l0 kq l0 x12_1 l1_3 (l1_3.length : Int) x60_1 a1_0 a1_1 l1_2 l1_3 = some (r1, r2)) ∧ Aside0 (kq ≤ k) ∧ Aside0 (Kd.R (Kd.int .i64) 3 w' w.heap.size (fun _ => True) v249 x12_1) ∧ Aside0 (w'.heap[gb235]? = some (.cells #[.string a1_0, .int .i64 a1_1, (.slice A1_2 l1_2.length c1_2), (.slice A1_3 l1_3.length c1_3)] 25 (0, 0))) ∧ Aside0 (Below w.heap.size w w'))
     case atStart => exact ⟨(t247), (0), (by first | rfl | (simp; done) | (simp [*]; done)), H', ⟨Nat.le_refl _⟩, ⟨by (with_reducible repeat (first | apply Kd.R_alloc | apply Kd.R_drewN | apply Kd.R_drew)); exact Kd.R_mono HO250.out (fun _ hk => trivial)⟩, ⟨aB BK235⟩, ⟨aH HB⟩⟩
     case round =>
      clear H'
      try clear c1
      try clear c2
      try clear p2
      try clear c3
      try clear c4
      try clear c4b0
      try clear c4b1
      try clear c7
      try clear c7b0
      try clear c7b1
      try clear c9
      try clear c9b0
      try clear c9b1
      try clear c11
      try clear c16
      try clear c21
      try clear hcz12_0
      try clear hcz12_1
      try clear hcz12_2
      try clear hcz12_3
      try clear hcz14_0
      try clear hcz14_1
      try clear hcz14_2
      try clear hcz14_3
      try clear hcz18_0
      try clear hcz18_1
      try clear hcz18_2
      try clear hcz18_3
      try clear hcz21_0
      try clear hcz21_1
      try clear hcz21_2
      try clear hcz21_3
      try clear hfz12_0
      try clear hfz12_1
      try clear hfz12_2
      try clear hfz12_3
      try clear hfz14_0
      try clear hfz14_1
      try clear hfz14_2
      try clear hfz14_3
      try clear hfz18_0
      try clear hfz18_1
      try clear hfz18_2
      try clear hfz18_3
      try clear hfz21_0
      try clear hfz21_1
      try clear hfz21_2
      try clear hfz21_3
      obtain ⟨x12_1, x60_1, rfl, HA, HK1, HO_12, BK235, HB⟩ := hrel
      cases gk with
      | zero => exact absurd HA.out (by simp [valuation_Values.l0])
      | succ k1 =>
       have H := HA.out
       clear HA
       simp only [valuation_Values.l0] at H
       by_cases c22 : x60_1 < (l1_3.length : Int)
       ·rw [if_pos c22] at H
        have c22b0 : decide (x60_1 < (l1_3.length : Int)) = true := decide_eq_true c22
        clear c22
        by_cases c23 : 0 ≤ x60_1
        ·rw [if_pos c23] at H
         have c23b0 : decide (0 ≤ x60_1) = true := decide_eq_true c23
         clear c23
         by_cases c24 : x60_1 < (l1_3.length : Int)
         ·rw [if_pos c24] at H
          have c24b0 : decide (x60_1 < (l1_3.length : Int)) = true := decide_eq_true c24
          clear c24
          replace H := Option.bind_eq_some_iff.mp H
          obtain ⟨t257, A250, H⟩ := H
          replace H : (if t257 = 0 then (valuation_Values.l0 k1 l0 x12_1 l1_3 (l1_3.length : Int) (wrap64 (x60_1 + 1)) a1_0 a1_1 l1_2 l1_3) else ((currency_Convert.f k1 l0 ((rd_T33 l1_3 x60_1).f1) ((rd_T33 l1_3 x60_1).f2) a1_1 2).bind fun bt258 => (if bt258.2 = 0 then ((valuation_divide.f k1 a1_0 a1_1 l1_2 l1_3 ((rd_T33 l1_3 x60_1).f0) ((rd_T33 l1_3 x60_1).f1) ((rd_T33 l1_3 x60_1).f2) ((rd_T33 l1_3 x60_1).f3) ((rd_T33 l1_3 x60_1).f4) bt258.1).bind fun t260 => (valuation_Values.l1 k1 l0 x12_1 l1_3 (l1_3.length : Int) x60_1 t260 (t260.length : Int) 0 a1_0 a1_1 l1_2 l1_3 ((rd_T33 l1_3 x60_1).f0) ((rd_T33 l1_3 x60_1).f1) ((rd_T33 l1_3 x60_1).f2) ((rd_T33 l1_3 x60_1).f3) ((rd_T33 l1_3 x60_1).f4))) else (some (([] : List Int), bt258.2))))) = some (r1, r2) := H
          have A25 := Aside0.mk A250
          clear A250
          by_cases c26 : t257 = 0
          ·rw [if_pos c26] at H
           have c26b0 : (t257 == 0) = true := beq_iff_eq.mpr c26
           have c26b1 : (t257 != 0) = false := bne_eq_false_iff_eq.mpr c26
           clear c26
           have H' := Aside0.mk H
           clear H
           have p255 : 0 ≤ (x60_1 : Int) := of_decide_eq_true (by first | (with_reducible assumption) | assumption)
           have q255 : x60_1 < (l1_3.length : Int) := of_decide_eq_true (by first | (with_reducible assumption) | assumption)
           obtain ⟨ad255, e255, hx255_0, hx255_1, hx255_2, hx255_3, hx255_4⟩ := at_T33 HR1_3.out x60_1 p255 q255
           cases e255
           replace hx255_0 := (HB.out.cell (World.block_lt_of_cell? w _ hx255_0)).trans hx255_0
           replace hx255_1 := (HB.out.cell (World.block_lt_of_cell? w _ hx255_1)).trans hx255_1
           replace hx255_2 := (HB.out.cell (World.block_lt_of_cell? w _ hx255_2)).trans hx255_2
           replace hx255_3 := (HB.out.cell (World.block_lt_of_cell? w _ hx255_3)).trans hx255_3
           replace hx255_4 := (HB.out.cell (World.block_lt_of_cell? w _ hx255_4)).trans hx255_4
           replace p255 := eq_true p255
           replace q255 := eq_true q255
           go_wp2_with (first | ((with_reducible refine gate_dst (N := 15) rfl ?_); refine boxA (N := 15) (cs := #[.int .i64 0, .int .i64 0, .string (⟨#[]⟩ : ByteArray), .int .i64 0, .int .i64 0]) (t := 33) ?_; intro gb256 hg w27 hbox hb; have n0_ := rB HO_12 hb; have n1_ := bB BK235 hb; have n2_ := hB HB hb; have n3_ := Aside0.mk (hbox); have n4_ := gW hg HB; have n5_ := gW hg HB; have n6_ := nL hg BK235; have n7_ := nG hg BK235; clear HO_12; clear BK235; clear HB; have HO_12 := n0_; have BK235 := n1_; have HB := n2_; have BK256 := n3_; have GW256 := n4_; have GE256 := n5_; have NB235_256 := n6_; have NB256_235 := n7_; clear n0_ n1_ n2_ n3_ n4_ n5_ n6_ n7_; clear hb hbox hg; have hnb28 := NB256_235.out; have hnc28 := NB235_256.out; have hcz29_0 : w27.cell? ⟨gb256, 0, none⟩ = some (.int .i64 0) := lc BK256 0; have hcz29_1 : w27.cell? ⟨gb256, 1, none⟩ = some (.int .i64 0) := lc BK256 1; have hcz29_2 : w27.cell? ⟨gb256, 2, none⟩ = some (.string (⟨#[]⟩ : ByteArray)) := lc BK256 2; have hcz29_3 : w27.cell? ⟨gb256, 3, none⟩ = some (.int .i64 0) := lc BK256 3; have hcz29_4 : w27.cell? ⟨gb256, 4, none⟩ = some (.int .i64 0) := lc BK256 4; have hfz29_0 := fz BK256 0; have hfz29_1 := fz BK256 1; have hfz29_2 := fz BK256 2; have hfz29_3 := fz BK256 3; have hfz29_4 := fz BK256 4) | ((with_reducible refine gate_callee (f := 32) rfl ?_); refine goA (some 66) Try.func32 #[.int .i64 ((rd_T33 l1_3 x60_1).f0)] ?_; (with_reducible refine (valuation_sign.calls ((rd_T33 l1_3 x60_1).f0) t257 _ A25.out).mono ?_); rintro e w' ⟨rfl, ⟨nd, rfl⟩⟩; refine ⟨_, rfl, ?_⟩))
           go_roundg k1
           case measure => have := HK1.out; omega
           case rel => exact ⟨(x12_1), (wrap64 (x60_1 + 1)), (by first | rfl | (simp; done) | (simp [*]; done)), H', ⟨by have := HK1.out; omega⟩, ⟨by (with_reducible repeat (first | apply Kd.R_alloc | apply Kd.R_drewN | apply Kd.R_drew)); exact Kd.R_mono (Kd.R_far (p := ⟨gb256, 4, none⟩) (Kd.R_far (p := ⟨gb256, 3, none⟩) (Kd.R_far (p := ⟨gb256, 2, none⟩) (Kd.R_far (p := ⟨gb256, 1, none⟩) (Kd.R_far (p := ⟨gb256, 0, none⟩) (Kd.R_types HO_12.out BK256.out (by decide)) (fun _ hk => hk.2) (.int .i64 ((rd_T33 l1_3 x60_1).f0))) (fun _ hk => hk.2) (.int .i64 ((rd_T33 l1_3 x60_1).f1))) (fun _ hk => hk.2) (.string ((rd_T33 l1_3 x60_1).f2))) (fun _ hk => hk.2) (.int .i64 ((rd_T33 l1_3 x60_1).f3))) (fun _ hk => hk.2) (.int .i64 ((rd_T33 l1_3 x60_1).f4))) (fun _ hk => trivial)⟩, ⟨by (with_reducible repeat (first | refine blk_drewN ?_ _ | refine blk_drew ?_ | refine blk_alloc ?_ _)); refine blk_far ?_ NB235_256.out _; (with_reducible repeat (first | refine blk_drewN ?_ _ | refine blk_drew ?_ | refine blk_alloc ?_ _)); refine blk_far ?_ NB235_256.out _; (with_reducible repeat (first | refine blk_drewN ?_ _ | refine blk_drew ?_ | refine blk_alloc ?_ _)); refine blk_far ?_ NB235_256.out _; (with_reducible repeat (first | refine blk_drewN ?_ _ | refine blk_drew ?_ | refine blk_alloc ?_ _)); refine blk_far ?_ NB235_256.out _; (with_reducible repeat (first | refine blk_drewN ?_ _ | refine blk_drew ?_ | refine blk_alloc ?_ _)); refine blk_far ?_ NB235_256.out _; (with_reducible repeat (first | refine blk_drewN ?_ _ | refine blk_drew ?_ | refine blk_alloc ?_ _)); exact BK235.out⟩, ⟨aH HB⟩⟩
          ·rw [if_neg c26] at H
           have c26b0 : (t257 == 0) = false := beq_eq_false_iff_ne.mpr c26
           have c26b1 : (t257 != 0) = true := bne_iff_ne.mpr c26
           replace H := Option.bind_eq_some_iff.mp H
           obtain ⟨⟨t258, t259⟩, A300, H⟩ := H
           replace H : (if t259 = 0 then ((valuation_divide.f k1 a1_0 a1_1 l1_2 l1_3 ((rd_T33 l1_3 x60_1).f0) ((rd_T33 l1_3 x60_1).f1) ((rd_T33 l1_3 x60_1).f2) ((rd_T33 l1_3 x60_1).f3) ((rd_T33 l1_3 x60_1).f4) t258).bind fun t260 => (valuation_Values.l1 k1 l0 x12_1 l1_3 (l1_3.length : Int) x60_1 t260 (t260.length : Int) 0 a1_0 a1_1 l1_2 l1_3 ((rd_T33 l1_3 x60_1).f0) ((rd_T33 l1_3 x60_1).f1) ((rd_T33 l1_3 x60_1).f2) ((rd_T33 l1_3 x60_1).f3) ((rd_T33 l1_3 x60_1).f4))) else (some (([] : List Int), t259))) = some (r1, r2) := H
           have A30 := Aside0.mk A300
           clear A300
           by_cases c31 : t259 = 0
           ·rw [if_pos c31] at H
            have c31b0 : (t259 == 0) = true := beq_iff_eq.mpr c31
            have c31b1 : (t259 != 0) = false := bne_eq_false_iff_eq.mpr c31
            clear c31
            replace H := Option.bind_eq_some_iff.mp H
            obtain ⟨t260, A320, H⟩ := H
            replace H : (valuation_Values.l1 k1 l0 x12_1 l1_3 (l1_3.length : Int) x60_1 t260 (t260.length : Int) 0 a1_0 a1_1 l1_2 l1_3 ((rd_T33 l1_3 x60_1).f0) ((rd_T33 l1_3 x60_1).f1) ((rd_T33 l1_3 x60_1).f2) ((rd_T33 l1_3 x60_1).f3) ((rd_T33 l1_3 x60_1).f4)) = some (r1, r2) := H
            have A32 := Aside0.mk A320
            clear A320
            have H' := Aside0.mk H
            clear H
            have p255 : 0 ≤ (x60_1 : Int) := of_decide_eq_true (by first | (with_reducible assumption) | assumption)
            have q255 : x60_1 < (l1_3.length : Int) := of_decide_eq_true (by first | (with_reducible assumption) | assumption)
            obtain ⟨ad255, e255, hx255_0, hx255_1, hx255_2, hx255_3, hx255_4⟩ := at_T33 HR1_3.out x60_1 p255 q255
            cases e255
            replace hx255_0 := (HB.out.cell (World.block_lt_of_cell? w _ hx255_0)).trans hx255_0
            replace hx255_1 := (HB.out.cell (World.block_lt_of_cell? w _ hx255_1)).trans hx255_1
            replace hx255_2 := (HB.out.cell (World.block_lt_of_cell? w _ hx255_2)).trans hx255_2
            replace hx255_3 := (HB.out.cell (World.block_lt_of_cell? w _ hx255_3)).trans hx255_3
            replace hx255_4 := (HB.out.cell (World.block_lt_of_cell? w _ hx255_4)).trans hx255_4
            replace p255 := eq_true p255
            replace q255 := eq_true q255
            go_wp2_with (first | ((with_reducible refine gate_dst (N := 15) rfl ?_); refine boxA (N := 15) (cs := #[.int .i64 0, .int .i64 0, .string (⟨#[]⟩ : ByteArray), .int .i64 0, .int .i64 0]) (t := 33) ?_; intro gb256 hg w33 hbox hb; have n0_ := rB HO_12 hb; have n1_ := bB BK235 hb; have n2_ := hB HB hb; have n3_ := Aside0.mk (hbox); have n4_ := gW hg HB; have n5_ := gW hg HB; have n6_ := nL hg BK235; have n7_ := nG hg BK235; clear HO_12; clear BK235; clear HB; have HO_12 := n0_; have BK235 := n1_; have HB := n2_; have BK256 := n3_; have GW256 := n4_; have GE256 := n5_; have NB235_256 := n6_; have NB256_235 := n7_; clear n0_ n1_ n2_ n3_ n4_ n5_ n6_ n7_; clear hb hbox hg; have hnb34 := NB256_235.out; have hnc34 := NB235_256.out; have hcz35_0 : w33.cell? ⟨gb256, 0, none⟩ = some (.int .i64 0) := lc BK256 0; have hcz35_1 : w33.cell? ⟨gb256, 1, none⟩ = some (.int .i64 0) := lc BK256 1; have hcz35_2 : w33.cell? ⟨gb256, 2, none⟩ = some (.string (⟨#[]⟩ : ByteArray)) := lc BK256 2; have hcz35_3 : w33.cell? ⟨gb256, 3, none⟩ = some (.int .i64 0) := lc BK256 3; have hcz35_4 : w33.cell? ⟨gb256, 4, none⟩ = some (.int .i64 0) := lc BK256 4; have hfz35_0 := fz BK256 0; have hfz35_1 := fz BK256 1; have hfz35_2 := fz BK256 2; have hfz35_3 := fz BK256 3; have hfz35_4 := fz BK256 4) | ((with_reducible refine gate_callee (f := 32) rfl ?_); refine goA (some 66) Try.func32 #[.int .i64 ((rd_T33 l1_3 x60_1).f0)] ?_; (with_reducible refine (valuation_sign.calls ((rd_T33 l1_3 x60_1).f0) t257 _ A25.out).mono ?_); rintro e w' ⟨rfl, ⟨nd, rfl⟩⟩; refine ⟨_, rfl, ?_⟩; have hcz36_0 : w33.cell? ⟨gb235, 0, none⟩ = some (.string a1_0) := lc BK235 0; have hcz36_1 : w33.cell? ⟨gb235, 1, none⟩ = some (.int .i64 a1_1) := lc BK235 1; have hcz36_2 : w33.cell? ⟨gb235, 2, none⟩ = some (.slice A1_2 l1_2.length c1_2) := lc BK235 2; have hcz36_3 : w33.cell? ⟨gb235, 3, none⟩ = some (.slice (some ad255) l1_3.length c1_3) := lc BK235 3; have hfz36_0 := fz BK235 0; have hfz36_1 := fz BK235 1; have hfz36_2 := fz BK235 2; have hfz36_3 := fz BK235 3) | ((with_reducible refine gate_callee (f := 21) rfl ?_); refine goA (some 76) Try.func21 #[.slice A0 l0.length c0, .int .i64 ((rd_T33 l1_3 x60_1).f1), .string ((rd_T33 l1_3 x60_1).f2), .int .i64 a1_1, .int .i64 2] ?_; (with_reducible refine (currency_Convert.calls k1 _ _ l0 ((rd_T33 l1_3 x60_1).f1) ((rd_T33 l1_3 x60_1).f2) a1_1 2 t258 t259 _ ?side1 ?side2 A30.out).mono ?_); (case side1 => exact Kd.C_below HR0.out (aH HB)); (case side2 => exact HC0.out); rintro e w37 ⟨rfl, hb⟩; refine ⟨_, rfl, ?_⟩; have n0_ := Aside0.mk (Kd.R_below (by (with_reducible repeat (first | apply Kd.R_alloc | apply Kd.R_drewN | apply Kd.R_drew)); exact (Kd.R_mono (Kd.R_far (p := ⟨gb256, 4, none⟩) (Kd.R_far (p := ⟨gb256, 3, none⟩) (Kd.R_far (p := ⟨gb256, 2, none⟩) (Kd.R_far (p := ⟨gb256, 1, none⟩) (Kd.R_far (p := ⟨gb256, 0, none⟩) (Kd.R_types HO_12.out BK256.out (by decide)) (fun _ hk => hk.2) (.int .i64 ((rd_T33 l1_3 x60_1).f0))) (fun _ hk => hk.2) (.int .i64 ((rd_T33 l1_3 x60_1).f1))) (fun _ hk => hk.2) (.string ((rd_T33 l1_3 x60_1).f2))) (fun _ hk => hk.2) (.int .i64 ((rd_T33 l1_3 x60_1).f3))) (fun _ hk => hk.2) (.int .i64 ((rd_T33 l1_3 x60_1).f4))) (fun _ h_ => h_.1))) hb); have n1_ := Aside0.mk (blk_below (g := gb235) (o := .cells #[.string a1_0, .int .i64 a1_1, .slice A1_2 l1_2.length c1_2, .slice (some ad255) l1_3.length c1_3] 25 (0, 0)) (by (with_reducible repeat (first | refine blk_drewN ?_ _ | refine blk_drew ?_ | refine blk_alloc ?_ _)); refine blk_far ?_ NB235_256.out _; (with_reducible repeat (first | refine blk_drewN ?_ _ | refine blk_drew ?_ | refine blk_alloc ?_ _)); refine blk_far ?_ NB235_256.out _; (with_reducible repeat (first | refine blk_drewN ?_ _ | refine blk_drew ?_ | refine blk_alloc ?_ _)); refine blk_far ?_ NB235_256.out _; (with_reducible repeat (first | refine blk_drewN ?_ _ | refine blk_drew ?_ | refine blk_alloc ?_ _)); refine blk_far ?_ NB235_256.out _; (with_reducible repeat (first | refine blk_drewN ?_ _ | refine blk_drew ?_ | refine blk_alloc ?_ _)); refine blk_far ?_ NB235_256.out _; (with_reducible repeat (first | refine blk_drewN ?_ _ | refine blk_drew ?_ | refine blk_alloc ?_ _)); exact BK235.out) hb); have n2_ := Aside0.mk (blk_below (g := gb256) (o := .cells #[.int .i64 ((rd_T33 l1_3 x60_1).f0), .int .i64 ((rd_T33 l1_3 x60_1).f1), .string ((rd_T33 l1_3 x60_1).f2), .int .i64 ((rd_T33 l1_3 x60_1).f3), .int .i64 ((rd_T33 l1_3 x60_1).f4)] 33 (0, 0)) (by (with_reducible repeat (first | refine blk_drewN ?_ _ | refine blk_drew ?_ | refine blk_alloc ?_ _)); refine blk_put (cs := #[.int .i64 ((rd_T33 l1_3 x60_1).f0), .int .i64 ((rd_T33 l1_3 x60_1).f1), .string ((rd_T33 l1_3 x60_1).f2), .int .i64 ((rd_T33 l1_3 x60_1).f3), .int .i64 0]) ?_ 4 _ rfl; (with_reducible repeat (first | refine blk_drewN ?_ _ | refine blk_drew ?_ | refine blk_alloc ?_ _)); refine blk_put (cs := #[.int .i64 ((rd_T33 l1_3 x60_1).f0), .int .i64 ((rd_T33 l1_3 x60_1).f1), .string ((rd_T33 l1_3 x60_1).f2), .int .i64 0, .int .i64 0]) ?_ 3 _ rfl; (with_reducible repeat (first | refine blk_drewN ?_ _ | refine blk_drew ?_ | refine blk_alloc ?_ _)); refine blk_put (cs := #[.int .i64 ((rd_T33 l1_3 x60_1).f0), .int .i64 ((rd_T33 l1_3 x60_1).f1), .string (⟨#[]⟩ : ByteArray), .int .i64 0, .int .i64 0]) ?_ 2 _ rfl; (with_reducible repeat (first | refine blk_drewN ?_ _ | refine blk_drew ?_ | refine blk_alloc ?_ _)); refine blk_put (cs := #[.int .i64 ((rd_T33 l1_3 x60_1).f0), .int .i64 0, .string (⟨#[]⟩ : ByteArray), .int .i64 0, .int .i64 0]) ?_ 1 _ rfl; (with_reducible repeat (first | refine blk_drewN ?_ _ | refine blk_drew ?_ | refine blk_alloc ?_ _)); refine blk_put (cs := #[.int .i64 0, .int .i64 0, .string (⟨#[]⟩ : ByteArray), .int .i64 0, .int .i64 0]) ?_ 0 _ rfl; (with_reducible repeat (first | refine blk_drewN ?_ _ | refine blk_drew ?_ | refine blk_alloc ?_ _)); exact BK256.out) hb); have n3_ := hB HB hb; clear HO_12; clear BK235; clear BK256; clear HB; have HO_12 := n0_; have BK235 := n1_; have BK256 := n2_; have HB := n3_; clear n0_ n1_ n2_ n3_; have hcz38_0 : w37.cell? ⟨gb235, 0, none⟩ = some (.string a1_0) := lc BK235 0; have hcz38_1 : w37.cell? ⟨gb235, 1, none⟩ = some (.int .i64 a1_1) := lc BK235 1; have hcz38_2 : w37.cell? ⟨gb235, 2, none⟩ = some (.slice A1_2 l1_2.length c1_2) := lc BK235 2; have hcz38_3 : w37.cell? ⟨gb235, 3, none⟩ = some (.slice (some ad255) l1_3.length c1_3) := lc BK235 3; have hfz38_0 := fz BK235 0; have hfz38_1 := fz BK235 1; have hfz38_2 := fz BK235 2; have hfz38_3 := fz BK235 3; have hcz39_0 : w37.cell? ⟨gb256, 0, none⟩ = some (.int .i64 ((rd_T33 l1_3 x60_1).f0)) := lc BK256 0; have hcz39_1 : w37.cell? ⟨gb256, 1, none⟩ = some (.int .i64 ((rd_T33 l1_3 x60_1).f1)) := lc BK256 1; have hcz39_2 : w37.cell? ⟨gb256, 2, none⟩ = some (.string ((rd_T33 l1_3 x60_1).f2)) := lc BK256 2; have hcz39_3 : w37.cell? ⟨gb256, 3, none⟩ = some (.int .i64 ((rd_T33 l1_3 x60_1).f3)) := lc BK256 3; have hcz39_4 : w37.cell? ⟨gb256, 4, none⟩ = some (.int .i64 ((rd_T33 l1_3 x60_1).f4)) := lc BK256 4; have hfz39_0 := fz BK256 0; have hfz39_1 := fz BK256 1; have hfz39_2 := fz BK256 2; have hfz39_3 := fz BK256 3; have hfz39_4 := fz BK256 4; clear hb) | ((with_reducible refine gate_callee (f := 33) rfl ?_); refine goA (some 85) Try.func33 #[.agg #[.string a1_0, .int .i64 a1_1, .slice A1_2 l1_2.length c1_2, .slice (some ad255) l1_3.length c1_3], .agg #[.int .i64 ((rd_T33 l1_3 x60_1).f0), .int .i64 ((rd_T33 l1_3 x60_1).f1), .string ((rd_T33 l1_3 x60_1).f2), .int .i64 ((rd_T33 l1_3 x60_1).f3), .int .i64 ((rd_T33 l1_3 x60_1).f4)], .int .i64 t258] ?_; (with_reducible refine (valuation_divide.calls k1 a1_0 a1_1 _ _ l1_2 _ _ l1_3 ((rd_T33 l1_3 x60_1).f0) ((rd_T33 l1_3 x60_1).f1) ((rd_T33 l1_3 x60_1).f2) ((rd_T33 l1_3 x60_1).f3) ((rd_T33 l1_3 x60_1).f4) t258 t260 _ ?side1 ?side2 ?side3 ?side4 A32.out).mono ?_); (case side1 => repeat (first | exact (Kd.C_below HR1_2.out HB.out) | (with_reducible refine Kd.C_alloc ?_ _) | (with_reducible refine Kd.C_drewN ?_ _) | (with_reducible refine Kd.C_drew ?_))); (case side2 => exact HC1_2.out); (case side3 => repeat (first | exact (Kd.C_below HR1_3.out HB.out) | (with_reducible refine Kd.C_alloc ?_ _) | (with_reducible refine Kd.C_drewN ?_ _) | (with_reducible refine Kd.C_drew ?_))); (case side4 => exact HC1_3.out); rintro e w40 ⟨v261, rfl, ho0, hb⟩; refine ⟨_, rfl, ?_⟩; have n0_ := Aside0.mk (Kd.R_elder' (aR HO_12) (Kd.R_base ho0) hb); have n1_ := Aside0.mk (Kd.R_lower (Kd.R_new' ho0 (Kd.R_lt (aR HO_12))) (below_size (aH HB))); have n2_ := bB BK235 hb; have n3_ := bB BK256 hb; have n4_ := hB HB hb; clear HO_12; clear BK235; clear BK256; clear HB; have HO_12 := n0_; have HO262 := n1_; have BK235 := n2_; have BK256 := n3_; have HB := n4_; clear n0_ n1_ n2_ n3_ n4_; obtain ⟨Ao41, co41, eo41⟩ := Kd.R_slice HO262.out; subst eo41; clear hb ho0))
            go_loopg [87] k1 (fun kq v87 w' => ∃ (x12_2 : List Int) (x87_2 : Int), v87 = .int .i64 x87_2 ∧ Aside0 (valuation_Values.l1 kq l0 x12_2 l1_3 (l1_3.length : Int) x60_1 t260 (t260.length : Int) x87_2 a1_0 a1_1 l1_2 l1_3 ((rd_T33 l1_3 x60_1).f0) ((rd_T33 l1_3 x60_1).f1) ((rd_T33 l1_3 x60_1).f2) ((rd_T33 l1_3 x60_1).f3) ((rd_T33 l1_3 x60_1).f4) = some (r1, r2)) ∧ Aside0 (kq ≤ k1) ∧ Aside0 (Kd.R (Kd.int .i64) 3 w' w.heap.size (fun k_ => some k_ ≠ ((.slice Ao41 t260.length co41) : Value).ownBlock) v249 x12_2) ∧ Aside0 (Kd.R (Kd.int .i64) 3 w' w.heap.size (fun k_ => some k_ ≠ (v249 : Value).ownBlock) (.slice Ao41 t260.length co41) t260) ∧ Aside0 (w'.heap[gb235]? = some (.cells #[.string a1_0, .int .i64 a1_1, (.slice A1_2 l1_2.length c1_2), (.slice (some ad255) l1_3.length c1_3)] 25 (0, 0))) ∧ Aside0 (w'.heap[gb256]? = some (.cells #[.int .i64 ((rd_T33 l1_3 x60_1).f0), .int .i64 ((rd_T33 l1_3 x60_1).f1), .string ((rd_T33 l1_3 x60_1).f2), .int .i64 ((rd_T33 l1_3 x60_1).f3), .int .i64 ((rd_T33 l1_3 x60_1).f4)] 33 (0, 0))) ∧ Aside0 (Below w.heap.size w w'))
            case atStart => exact ⟨(x12_1), (0), (by first | rfl | (simp; done) | (simp [*]; done)), H', ⟨Nat.le_refl _⟩, ⟨by (with_reducible repeat (first | apply Kd.R_alloc | apply Kd.R_drewN | apply Kd.R_drew)); exact Kd.R_mono HO_12.out (fun _ hk => hk.2)⟩, ⟨by (with_reducible repeat (first | apply Kd.R_alloc | apply Kd.R_drewN | apply Kd.R_drew)); exact Kd.R_mono HO262.out (fun _ hk => hk.2)⟩, ⟨aB BK235⟩, ⟨aB BK256⟩, ⟨aH HB⟩⟩
            case round =>
             clear H'
             try clear c1
             try clear c2
             try clear p2
             try clear q2
             try clear hx2
             try clear c3
             try clear c4
             try clear c4b0
             try clear c4b1
             try clear p6
             try clear c7
             try clear c7b0
             try clear c7b1
             try clear c9
             try clear c9b0
             try clear c9b1
             try clear c11
             try clear c16
             try clear c21
             try clear c22
             try clear c22b0
             try clear c23
             try clear c23b0
             try clear c24
             try clear c24b0
             try clear p25
             try clear q25
             try clear hx25
             try clear c26
             try clear c26b0
             try clear c26b1
             try clear c28
             try clear c29
             try clear c30
             try clear c31
             try clear c31b0
             try clear c31b1
             try clear c32
             try clear c33
             try clear c34
             try clear hcz12_0
             try clear hcz12_1
             try clear hcz12_2
             try clear hcz12_3
             try clear hcz14_0
             try clear hcz14_1
             try clear hcz14_2
             try clear hcz14_3
             try clear hcz18_0
             try clear hcz18_1
             try clear hcz18_2
             try clear hcz18_3
             try clear hcz21_0
             try clear hcz21_1
             try clear hcz21_2
             try clear hcz21_3
             try clear hcz29_0
             try clear hcz29_1
             try clear hcz29_2
             try clear hcz29_3
             try clear hcz29_4
             try clear hcz35_0
             try clear hcz35_1
             try clear hcz35_2
             try clear hcz35_3
             try clear hcz35_4
             try clear hcz36_0
             try clear hcz36_1
             try clear hcz36_2
             try clear hcz36_3
             try clear hcz38_0
             try clear hcz38_1
             try clear hcz38_2
             try clear hcz38_3
             try clear hcz39_0
             try clear hcz39_1
             try clear hcz39_2
             try clear hcz39_3
             try clear hcz39_4
             try clear hfz12_0
             try clear hfz12_1
             try clear hfz12_2
             try clear hfz12_3
             try clear hfz14_0
             try clear hfz14_1
             try clear hfz14_2
             try clear hfz14_3
             try clear hfz18_0
             try clear hfz18_1
             try clear hfz18_2
             try clear hfz18_3
             try clear hfz21_0
             try clear hfz21_1
             try clear hfz21_2
             try clear hfz21_3
             try clear hfz29_0
             try clear hfz29_1
             try clear hfz29_2
             try clear hfz29_3
             try clear hfz29_4
             try clear hfz35_0
             try clear hfz35_1
             try clear hfz35_2
             try clear hfz35_3
             try clear hfz35_4
             try clear hfz36_0
             try clear hfz36_1
             try clear hfz36_2
             try clear hfz36_3
             try clear hfz38_0
             try clear hfz38_1
             try clear hfz38_2
             try clear hfz38_3
             try clear hfz39_0
             try clear hfz39_1
             try clear hfz39_2
             try clear hfz39_3
             try clear hfz39_4
             try clear hx255_0
             try clear hx255_1
             try clear hx255_2
             try clear hx255_3
             try clear hx255_4
             try clear p2
             try clear p255
             try clear q255
             obtain ⟨x12_2, x87_2, rfl, HA, HK2, HO_12, HO_85, BK235, BK256, HB⟩ := hrel
             cases gk with
             | zero => exact absurd HA.out (by simp [valuation_Values.l1])
             | succ k2 =>
              have H := HA.out
              clear HA
              simp only [valuation_Values.l1] at H
              by_cases c42 : x87_2 < (t260.length : Int)
              ·rw [if_pos c42] at H
               have c42b0 : decide (x87_2 < (t260.length : Int)) = true := decide_eq_true c42
               clear c42
               by_cases c43 : 0 ≤ x87_2
               ·rw [if_pos c43] at H
                have c43b0 : decide (0 ≤ x87_2) = true := decide_eq_true c43
                clear c43
                by_cases c44 : x87_2 < (t260.length : Int)
                ·rw [if_pos c44] at H
                 have c44b0 : decide (x87_2 < (t260.length : Int)) = true := decide_eq_true c44
                 clear c44
                 by_cases c45 : x87_2 < (x12_2.length : Int)
                 ·rw [if_pos c45] at H
                  have c45b0 : decide (x87_2 < (x12_2.length : Int)) = true := decide_eq_true c45
                  clear c45
                  replace H := Option.bind_eq_some_iff.mp H
                  obtain ⟨t265, A460, H⟩ := H
                  replace H : (valuation_Values.l1 k2 l0 (x12_2.set (x87_2 : Int).toNat (wrap64 ((rd x12_2 x87_2) + (wrap64 (t265 * (rd t260 x87_2)))))) l1_3 (l1_3.length : Int) x60_1 t260 (t260.length : Int) (wrap64 (x87_2 + 1)) a1_0 a1_1 l1_2 l1_3 ((rd_T33 l1_3 x60_1).f0) ((rd_T33 l1_3 x60_1).f1) ((rd_T33 l1_3 x60_1).f2) ((rd_T33 l1_3 x60_1).f3) ((rd_T33 l1_3 x60_1).f4)) = some (r1, r2) := H
                  have A46 := Aside0.mk A460
                  clear A460
                  obtain ⟨y266, hy266⟩ : ∃ y_ : List Int, y_ = (x12_2.set (x87_2 : Int).toNat (wrap64 ((rd x12_2 x87_2) + (wrap64 (t265 * (rd t260 x87_2)))))) := ⟨_, rfl⟩
                  replace H : (valuation_Values.l1 k2 l0 y266 l1_3 (l1_3.length : Int) x60_1 t260 (t260.length : Int) (wrap64 (x87_2 + 1)) a1_0 a1_1 l1_2 l1_3 ((rd_T33 l1_3 x60_1).f0) ((rd_T33 l1_3 x60_1).f1) ((rd_T33 l1_3 x60_1).f2) ((rd_T33 l1_3 x60_1).f3) ((rd_T33 l1_3 x60_1).f4)) = some (r1, r2) := by first | (rw [hy266]; with_reducible exact H) | (have H2_ := (Option.bind_some _ _).symm.trans H; rw [hy266]; with_reducible exact H2_) | (have H2_ := (Option.bind_some _ _).symm.trans H; with_reducible exact H2_) | with_reducible exact H | (rw [hy266]; exact H) | exact H
                  have Ny266 := Aside0.mk hy266
                  clear hy266
                  have H' := Aside0.mk H
                  clear H
                  have p263 : 0 ≤ (x87_2 : Int) := of_decide_eq_true (by first | (with_reducible assumption) | assumption)
                  have q263 : x87_2 < (t260.length : Int) := of_decide_eq_true (by first | (with_reducible assumption) | assumption)
                  obtain ⟨ad263, e263, hx263_0⟩ := Kd.at_int (Kd.R_reads' HO_85.out).2.2 x87_2 p263 q263
                  cases e263
                  replace p263 := eq_true p263
                  replace q263 := eq_true q263
                  try go_wp2
                  have n0_ := Aside0.mk (Kd.R_drew HO_12.out)
                  have n1_ := Aside0.mk (Kd.R_drew HO_85.out)
                  have n2_ := Aside0.mk (blk_drew BK235.out)
                  have n3_ := Aside0.mk (blk_drew BK256.out)
                  have n4_ := Aside0.mk (below_drew1 HB.out)
                  clear HO_12
                  clear HO_85
                  clear BK235
                  clear BK256
                  clear HB
                  have HO_12 := n0_
                  have HO_85 := n1_
                  have BK235 := n2_
                  have BK256 := n3_
                  have HB := n4_
                  clear n0_ n1_ n2_ n3_ n4_
                  obtain ⟨Ao49, co49, eo49⟩ := Kd.R_slice HO_12.out
                  (first | subst eo49 | (injection eo49 with f1_ f2_ f3_; have f4_ := f1_.symm; have f5_ := f3_.symm; clear f1_ f2_ f3_; subst f4_; subst f5_))
                  have p264 : 0 ≤ (x87_2 : Int) := of_decide_eq_true (by first | (with_reducible assumption) | assumption)
                  have q264 : x87_2 < (x12_2.length : Int) := of_decide_eq_true (by first | (with_reducible assumption) | assumption)
                  obtain ⟨ad264, e264, hx264_0⟩ := Kd.at_int (Kd.R_reads' HO_12.out).2.2 x87_2 p264 q264
                  cases e264
                  replace p264 := eq_true p264
                  replace q264 := eq_true q264
                  refine start_ (n := 12) (S := fun w' => w'.cell? ⟨gb256, 0, none⟩ = some (.int .i64 ((rd_T33 l1_3 x60_1).f0)) ∧ w'.cell? ⟨gb256, 1, none⟩ = some (.int .i64 ((rd_T33 l1_3 x60_1).f1)) ∧ w'.cell? ⟨gb256, 2, none⟩ = some (.string ((rd_T33 l1_3 x60_1).f2)) ∧ w'.cell? ⟨gb256, 3, none⟩ = some (.int .i64 ((rd_T33 l1_3 x60_1).f3)) ∧ w'.cell? ⟨gb256, 4, none⟩ = some (.int .i64 ((rd_T33 l1_3 x60_1).f4)) ∧ w'.cell? (ad264.add (x87_2).toNat) = some (.int .i64 (rd x12_2 x87_2))) (ds := [11]) #[false, false, false, false, false, false, false, false, false, false, false, false] (by kernel_rfl) rfl rfl ⟨(blk_cell BK256.out 0).trans rfl, (blk_cell BK256.out 1).trans rfl, (blk_cell BK256.out 2).trans rfl, (blk_cell BK256.out 3).trans rfl, (blk_cell BK256.out 4).trans rfl, hx264_0⟩ (fun hHeld => ?_); refine with_tabW valuation_Values.tab22 valuation_Values.bits22 (fun HT_ HW_ => ?_)
                  generalize wr.drew = w48 at HO_12 HO_85 BK235 BK256 HB hx264_0 hHeld ⊢
                  refine pure_ (i := 0) (N := some 92) (v := ?_) (a' := ?_) #[true, false, false, false, false, false, false, false, false, false, false, false] rfl rfl (any_of HT_.out (by kernel_rfl)) (fun _ _ _ h => h) (Or.inl ⟨by rfl, ?_⟩) ?_ ?_
                  rotate_left
                  ·intro w'
                   go_simp
                   with_reducible rfl
                  rotate_left
                  ·simp only [Act.put, List.setIfInBounds_toArray, List.set_cons_zero, List.set_cons_succ, i64_w, i32_w]
                   rfl
                  refine pure_ (i := 1) (N := some 93) (v := ?_) (a' := ?_) #[true, true, false, false, false, false, false, false, false, false, false, false] rfl rfl (any_of HT_.out (by kernel_rfl)) (fun _ _ _ h => h) (Or.inl ⟨by rfl, ?_⟩) ?_ ?_
                  rotate_left
                  ·intro w'
                   go_simp
                   with_reducible rfl
                  rotate_left
                  ·simp only [Act.put, List.setIfInBounds_toArray, List.set_cons_zero, List.set_cons_succ, i64_w, i32_w]
                   rfl
                  refine pure_ (i := 2) (N := some 94) (v := ?_) (a' := ?_) #[true, true, true, false, false, false, false, false, false, false, false, false] rfl rfl (any_of HT_.out (by kernel_rfl)) (fun _ _ _ h => h) (Or.inl ⟨by rfl, ?_⟩) ?_ ?_
                  rotate_left
                  ·intro w'
                   go_simp
                   with_reducible rfl
                  rotate_left
                  ·simp only [Act.put, List.setIfInBounds_toArray, List.set_cons_zero, List.set_cons_succ, i64_w, i32_w]
                   rfl
                  refine pure_ (i := 4) (N := some 96) (v := ?_) (a' := ?_) #[true, true, true, false, true, false, false, false, false, false, false, false] rfl rfl (any_of HT_.out (by kernel_rfl)) (fun _ _ _ h => h) (Or.inl ⟨by rfl, ?_⟩) ?_ ?_
                  rotate_left
                  ·intro w'
                   go_simp
                   with_reducible rfl
                  rotate_left
                  ·simp only [Act.put, List.setIfInBounds_toArray, List.set_cons_zero, List.set_cons_succ, i64_w, i32_w]
                   rfl
                  refine pure_ (i := 7) (N := some 99) (v := ?_) (a' := ?_) #[true, true, true, false, true, false, false, true, false, false, false, false] rfl rfl (any_of HT_.out (by kernel_rfl)) (fun _ _ _ h => h) (Or.inl ⟨by rfl, ?_⟩) ?_ ?_
                  rotate_left
                  ·intro w'
                   go_simp
                   with_reducible rfl
                  rotate_left
                  ·simp only [Act.put, List.setIfInBounds_toArray, List.set_cons_zero, List.set_cons_succ, i64_w, i32_w]
                   rfl
                  refine take_ (i := 3) (N := some 95) (v := ?_) (a' := ?_) #[true, true, true, true, true, false, false, true, false, false, false, false] rfl rfl (take_ofW HT_.out HW_.out (by kernel_rfl)) (fun _ _ _ h => h) (Or.inl ⟨by rfl, ?_⟩) hHeld ?_ ?_
                  rotate_left
                  ·rintro w' ⟨s0, s1, s2, s3, s4, s5⟩
                   go_simp
                   with_reducible rfl
                  rotate_left
                  ·simp only [Act.put, List.setIfInBounds_toArray, List.set_cons_zero, List.set_cons_succ, i64_w, i32_w]
                   rfl
                  refine take_ (i := 5) (N := some 97) (v := ?_) (a' := ?_) #[true, true, true, true, true, true, false, true, false, false, false, false] rfl rfl (take_ofW HT_.out HW_.out (by kernel_rfl)) (fun _ _ _ h => h) (Or.inl ⟨by rfl, ?_⟩) hHeld ?_ ?_
                  rotate_left
                  ·rintro w' ⟨s0, s1, s2, s3, s4, s5⟩
                   go_simp
                   with_reducible rfl
                  rotate_left
                  ·simp only [Act.put, List.setIfInBounds_toArray, List.set_cons_zero, List.set_cons_succ, i64_w, i32_w]
                   rfl
                  refine one_ (i := 6) (N := some 98) #[true, true, true, true, true, true, true, true, false, false, false, false] rfl rfl (one_of HT_.out (by kernel_rfl)) (by decide) (fun K hK => ?_)
                  refine goes_ Try.func32 (by kernel_rfl) rfl #[.int .i64 ((rd_T33 l1_3 x60_1).f0)] (by rfl) rfl rfl (by (try simp only [List.map_toArray, List.map_cons, List.map_nil]); first | done | rfl | (simp only [List.length_drop, List.length_take]; rfl)) ?_
                  with_reducible refine (valuation_sign.calls ((rd_T33 l1_3 x60_1).f0) t265 _ A46.out).mono ?_
                  rintro e w' ⟨rfl, ⟨nd, rfl⟩⟩
                  refine ⟨_, rfl, ?_⟩
                  have p47 : 0 ≤ (x87_2 : Int) := of_decide_eq_true (by first | (with_reducible assumption) | assumption)
                  have q47 : (x87_2 : Int) < ((x12_2.length : Int) : Int) := of_decide_eq_true (by first | (with_reducible assumption) | assumption)
                  obtain ⟨go47, co47, eo47, gb47, gl47, cl47, HG47⟩ := Kd.R_form HO_12.out (by omega)
                  (first | cases eo47 | (injection eo47 with ea_ en_ ec_; (first | subst ea_ | (injection ea_ with ea_; subst ea_)); subst ec_; clear en_))
                  have GB47 := Aside0.mk gb47
                  have GG47 := Aside0.mk HG47
                  clear gb47 gl47 HG47
                  (first | simp only [add_plain] at hx264_0 | skip)
                  obtain ⟨hx47_0, hf47_0⟩ := Kd.R_celln 0 HO_12.out (x87_2 : Int) p47 q47
                  replace p47 := eq_true p47
                  replace q47 := eq_true q47
                  have HP50 := Kd.R_putn HO_12.out (x87_2 : Int) (wrap64 ((rd x12_2 x87_2) + (wrap64 (t265 * (rd t260 x87_2)))))
                  rw [← Ny266.out] at HP50
                  have HQ50 := Aside0.mk HP50
                  clear HP50
                  refine hK.out _ _ ⟨(blk_cell BK256.out 0).trans rfl, (blk_cell BK256.out 1).trans rfl, (blk_cell BK256.out 2).trans rfl, (blk_cell BK256.out 3).trans rfl, (blk_cell BK256.out 4).trans rfl, hHeld.2.2.2.2.2⟩ (fun hHeld => ?_)
                  clear hK K
                  refine norm_ (a' := ?_) ?_ ?_
                  rotate_left
                  ·show Act.put _ (some 98) _ = _
                   simp only [Act.put, List.setIfInBounds_toArray, List.set_cons_zero, List.set_cons_succ, i64_w, i32_w]
                   rfl
                  refine pure_ (i := 8) (N := some 100) (v := ?_) (a' := ?_) #[true, true, true, true, true, true, true, true, true, false, false, false] rfl rfl (any_of HT_.out (by kernel_rfl)) (fun _ _ _ h => h) (Or.inl ⟨by rfl, ?_⟩) ?_ ?_
                  rotate_left
                  ·intro w'
                   go_simp
                   with_reducible rfl
                  rotate_left
                  ·simp only [Act.put, List.setIfInBounds_toArray, List.set_cons_zero, List.set_cons_succ, i64_w, i32_w]
                   rfl
                  refine pure_ (i := 9) (N := some 101) (v := ?_) (a' := ?_) #[true, true, true, true, true, true, true, true, true, true, false, false] rfl rfl (any_of HT_.out (by kernel_rfl)) (fun _ _ _ h => h) (Or.inl ⟨by rfl, ?_⟩) ?_ ?_
                  rotate_left
                  ·intro w'
                   go_simp
                   with_reducible rfl
                  rotate_left
                  ·simp only [Act.put, List.setIfInBounds_toArray, List.set_cons_zero, List.set_cons_succ, i64_w, i32_w]
                   rfl
                  refine pure_ (i := 10) (N := some 102) (v := ?_) (a' := ?_) #[true, true, true, true, true, true, true, true, true, true, true, false] rfl rfl (any_of HT_.out (by kernel_rfl)) (fun _ _ _ h => h) (Or.inl ⟨by rfl, ?_⟩) ?_ ?_
                  rotate_left
                  ·intro w'
                   go_simp
                   with_reducible rfl
                  rotate_left
                  ·simp only [Act.put, List.setIfInBounds_toArray, List.set_cons_zero, List.set_cons_succ, i64_w, i32_w]
                   rfl
                  refine last_ (i := 11) (N := none) #[true, true, true, true, true, true, true, true, true, true, true, true] rfl rfl (one_of HT_.out (by kernel_rfl)) (by decide) (fun K hK => ?_)
                  refine skip_ (w1 := ?_) (by rfl) rfl ?_ ?_
                  rotate_left
                  ·go_simp
                   rfl
                  refine hK.out _ _ ?_
                  clear hK K
                  refine done_ (done_of HT_.out (by kernel_rfl)) ?_
                  try go_wp2
                  go_roundg k2
                  case measure => have := HK1.out; have := HK2.out; omega
                  case rel => exact ⟨(y266), (wrap64 (x87_2 + 1)), (by first | rfl | (simp; done) | (simp [*]; done)), H', ⟨by have := HK1.out; have := HK2.out; omega⟩, ⟨aR HQ50⟩, ⟨by (with_reducible repeat (first | apply Kd.R_alloc | apply Kd.R_drewN | apply Kd.R_drew)); exact Kd.R_mono (Kd.R_far (p := ⟨go47, (x87_2 : Int).toNat, none⟩) (Kd.R_mono HO_85.out (fun k_ hk => (⟨hk, fun e_ => hk (by rw [e_]; rfl)⟩ : _ ∧ k_ ≠ go47))) (fun _ hk => hk.2) (.int .i64 (wrap64 ((rd x12_2 x87_2) + (wrap64 (t265 * (rd t260 x87_2))))))) (fun _ hk => hk.1)⟩, ⟨by (with_reducible repeat (first | refine blk_drewN ?_ _ | refine blk_drew ?_ | refine blk_alloc ?_ _)); refine blk_far ?_ (by have h_ := Kd.R_ne HO_12.out BK235.out (by decide); intro e_; exact h_ (by rw [e_]; rfl)) _; (with_reducible repeat (first | refine blk_drewN ?_ _ | refine blk_drew ?_ | refine blk_alloc ?_ _)); exact BK235.out⟩, ⟨by (with_reducible repeat (first | refine blk_drewN ?_ _ | refine blk_drew ?_ | refine blk_alloc ?_ _)); refine blk_far ?_ (by have h_ := Kd.R_ne HO_12.out BK256.out (by decide); intro e_; exact h_ (by rw [e_]; rfl)) _; (with_reducible repeat (first | refine blk_drewN ?_ _ | refine blk_drew ?_ | refine blk_alloc ?_ _)); exact BK256.out⟩, ⟨by repeat (first | (with_reducible first | exact HB.out | apply below_alloc | apply pw_below_drewN | apply below_drew1 | refine below_set ?_ GB47.out | refine below_set ?_ GE235.out | refine below_set ?_ GE256.out) | exact HB.out)⟩⟩
                 ·rw [if_neg c45] at H
                  exact absurd H (by simp)
                ·rw [if_neg c44] at H
                 exact absurd H (by simp)
               ·rw [if_neg c43] at H
                exact absurd H (by simp)
              ·rw [if_neg c42] at H
               have c42b0 : decide (x87_2 < (t260.length : Int)) = false := decide_eq_false c42
               clear c42
               have H' := Aside0.mk H
               clear H
               go_wp2
               go_roundg k2
               case measure => have := HK1.out; have := HK2.out; omega
               case rel => exact ⟨(x12_2), (wrap64 (x60_1 + 1)), (by first | rfl | (simp; done) | (simp [*]; done)), H', ⟨by have := HK1.out; have := HK2.out; omega⟩, ⟨by (with_reducible repeat (first | apply Kd.R_alloc | apply Kd.R_drewN | apply Kd.R_drew)); exact Kd.R_mono HO_12.out (fun _ hk => trivial)⟩, ⟨aB BK235⟩, ⟨aH HB⟩⟩
           ·rw [if_neg c31] at H
            have c31b0 : (t259 == 0) = false := beq_eq_false_iff_ne.mpr c31
            have c31b1 : (t259 != 0) = true := bne_iff_ne.mpr c31
            simp only [Option.some.injEq, Prod.mk.injEq] at H
            obtain ⟨rfl, rfl⟩ := H
            have p255 : 0 ≤ (x60_1 : Int) := of_decide_eq_true (by first | (with_reducible assumption) | assumption)
            have q255 : x60_1 < (l1_3.length : Int) := of_decide_eq_true (by first | (with_reducible assumption) | assumption)
            obtain ⟨ad255, e255, hx255_0, hx255_1, hx255_2, hx255_3, hx255_4⟩ := at_T33 HR1_3.out x60_1 p255 q255
            cases e255
            replace hx255_0 := (HB.out.cell (World.block_lt_of_cell? w _ hx255_0)).trans hx255_0
            replace hx255_1 := (HB.out.cell (World.block_lt_of_cell? w _ hx255_1)).trans hx255_1
            replace hx255_2 := (HB.out.cell (World.block_lt_of_cell? w _ hx255_2)).trans hx255_2
            replace hx255_3 := (HB.out.cell (World.block_lt_of_cell? w _ hx255_3)).trans hx255_3
            replace hx255_4 := (HB.out.cell (World.block_lt_of_cell? w _ hx255_4)).trans hx255_4
            replace p255 := eq_true p255
            replace q255 := eq_true q255
            go_wp2_with (first | ((with_reducible refine gate_dst (N := 15) rfl ?_); refine boxA (N := 15) (cs := #[.int .i64 0, .int .i64 0, .string (⟨#[]⟩ : ByteArray), .int .i64 0, .int .i64 0]) (t := 33) ?_; intro gb256 hg w51 hbox hb; have n0_ := rB HO_12 hb; have n1_ := bB BK235 hb; have n2_ := hB HB hb; have n3_ := Aside0.mk (hbox); have n4_ := gW hg HB; have n5_ := gW hg HB; have n6_ := nL hg BK235; have n7_ := nG hg BK235; clear HO_12; clear BK235; clear HB; have HO_12 := n0_; have BK235 := n1_; have HB := n2_; have BK256 := n3_; have GW256 := n4_; have GE256 := n5_; have NB235_256 := n6_; have NB256_235 := n7_; clear n0_ n1_ n2_ n3_ n4_ n5_ n6_ n7_; clear hb hbox hg; have hnb52 := NB256_235.out; have hnc52 := NB235_256.out; have hcz53_0 : w51.cell? ⟨gb256, 0, none⟩ = some (.int .i64 0) := lc BK256 0; have hcz53_1 : w51.cell? ⟨gb256, 1, none⟩ = some (.int .i64 0) := lc BK256 1; have hcz53_2 : w51.cell? ⟨gb256, 2, none⟩ = some (.string (⟨#[]⟩ : ByteArray)) := lc BK256 2; have hcz53_3 : w51.cell? ⟨gb256, 3, none⟩ = some (.int .i64 0) := lc BK256 3; have hcz53_4 : w51.cell? ⟨gb256, 4, none⟩ = some (.int .i64 0) := lc BK256 4; have hfz53_0 := fz BK256 0; have hfz53_1 := fz BK256 1; have hfz53_2 := fz BK256 2; have hfz53_3 := fz BK256 3; have hfz53_4 := fz BK256 4) | ((with_reducible refine gate_callee (f := 32) rfl ?_); refine goA (some 66) Try.func32 #[.int .i64 ((rd_T33 l1_3 x60_1).f0)] ?_; (with_reducible refine (valuation_sign.calls ((rd_T33 l1_3 x60_1).f0) t257 _ A25.out).mono ?_); rintro e w' ⟨rfl, ⟨nd, rfl⟩⟩; refine ⟨_, rfl, ?_⟩; have hcz54_0 : w51.cell? ⟨gb235, 0, none⟩ = some (.string a1_0) := lc BK235 0; have hcz54_1 : w51.cell? ⟨gb235, 1, none⟩ = some (.int .i64 a1_1) := lc BK235 1; have hcz54_2 : w51.cell? ⟨gb235, 2, none⟩ = some (.slice A1_2 l1_2.length c1_2) := lc BK235 2; have hcz54_3 : w51.cell? ⟨gb235, 3, none⟩ = some (.slice (some ad255) l1_3.length c1_3) := lc BK235 3; have hfz54_0 := fz BK235 0; have hfz54_1 := fz BK235 1; have hfz54_2 := fz BK235 2; have hfz54_3 := fz BK235 3) | ((with_reducible refine gate_callee (f := 21) rfl ?_); refine goA (some 76) Try.func21 #[.slice A0 l0.length c0, .int .i64 ((rd_T33 l1_3 x60_1).f1), .string ((rd_T33 l1_3 x60_1).f2), .int .i64 a1_1, .int .i64 2] ?_; (with_reducible refine (currency_Convert.calls k1 _ _ l0 ((rd_T33 l1_3 x60_1).f1) ((rd_T33 l1_3 x60_1).f2) a1_1 2 t258 t259 _ ?side1 ?side2 A30.out).mono ?_); (case side1 => exact Kd.C_below HR0.out (aH HB)); (case side2 => exact HC0.out); rintro e w55 ⟨rfl, hb⟩; refine ⟨_, rfl, ?_⟩; have n0_ := Aside0.mk (Kd.R_below (by (with_reducible repeat (first | apply Kd.R_alloc | apply Kd.R_drewN | apply Kd.R_drew)); exact (Kd.R_mono (Kd.R_far (p := ⟨gb256, 4, none⟩) (Kd.R_far (p := ⟨gb256, 3, none⟩) (Kd.R_far (p := ⟨gb256, 2, none⟩) (Kd.R_far (p := ⟨gb256, 1, none⟩) (Kd.R_far (p := ⟨gb256, 0, none⟩) (Kd.R_types HO_12.out BK256.out (by decide)) (fun _ hk => hk.2) (.int .i64 ((rd_T33 l1_3 x60_1).f0))) (fun _ hk => hk.2) (.int .i64 ((rd_T33 l1_3 x60_1).f1))) (fun _ hk => hk.2) (.string ((rd_T33 l1_3 x60_1).f2))) (fun _ hk => hk.2) (.int .i64 ((rd_T33 l1_3 x60_1).f3))) (fun _ hk => hk.2) (.int .i64 ((rd_T33 l1_3 x60_1).f4))) (fun _ h_ => h_.1))) hb); have n1_ := Aside0.mk (blk_below (g := gb235) (o := .cells #[.string a1_0, .int .i64 a1_1, .slice A1_2 l1_2.length c1_2, .slice (some ad255) l1_3.length c1_3] 25 (0, 0)) (by (with_reducible repeat (first | refine blk_drewN ?_ _ | refine blk_drew ?_ | refine blk_alloc ?_ _)); refine blk_far ?_ NB235_256.out _; (with_reducible repeat (first | refine blk_drewN ?_ _ | refine blk_drew ?_ | refine blk_alloc ?_ _)); refine blk_far ?_ NB235_256.out _; (with_reducible repeat (first | refine blk_drewN ?_ _ | refine blk_drew ?_ | refine blk_alloc ?_ _)); refine blk_far ?_ NB235_256.out _; (with_reducible repeat (first | refine blk_drewN ?_ _ | refine blk_drew ?_ | refine blk_alloc ?_ _)); refine blk_far ?_ NB235_256.out _; (with_reducible repeat (first | refine blk_drewN ?_ _ | refine blk_drew ?_ | refine blk_alloc ?_ _)); refine blk_far ?_ NB235_256.out _; (with_reducible repeat (first | refine blk_drewN ?_ _ | refine blk_drew ?_ | refine blk_alloc ?_ _)); exact BK235.out) hb); have n2_ := Aside0.mk (blk_below (g := gb256) (o := .cells #[.int .i64 ((rd_T33 l1_3 x60_1).f0), .int .i64 ((rd_T33 l1_3 x60_1).f1), .string ((rd_T33 l1_3 x60_1).f2), .int .i64 ((rd_T33 l1_3 x60_1).f3), .int .i64 ((rd_T33 l1_3 x60_1).f4)] 33 (0, 0)) (by (with_reducible repeat (first | refine blk_drewN ?_ _ | refine blk_drew ?_ | refine blk_alloc ?_ _)); refine blk_put (cs := #[.int .i64 ((rd_T33 l1_3 x60_1).f0), .int .i64 ((rd_T33 l1_3 x60_1).f1), .string ((rd_T33 l1_3 x60_1).f2), .int .i64 ((rd_T33 l1_3 x60_1).f3), .int .i64 0]) ?_ 4 _ rfl; (with_reducible repeat (first | refine blk_drewN ?_ _ | refine blk_drew ?_ | refine blk_alloc ?_ _)); refine blk_put (cs := #[.int .i64 ((rd_T33 l1_3 x60_1).f0), .int .i64 ((rd_T33 l1_3 x60_1).f1), .string ((rd_T33 l1_3 x60_1).f2), .int .i64 0, .int .i64 0]) ?_ 3 _ rfl; (with_reducible repeat (first | refine blk_drewN ?_ _ | refine blk_drew ?_ | refine blk_alloc ?_ _)); refine blk_put (cs := #[.int .i64 ((rd_T33 l1_3 x60_1).f0), .int .i64 ((rd_T33 l1_3 x60_1).f1), .string (⟨#[]⟩ : ByteArray), .int .i64 0, .int .i64 0]) ?_ 2 _ rfl; (with_reducible repeat (first | refine blk_drewN ?_ _ | refine blk_drew ?_ | refine blk_alloc ?_ _)); refine blk_put (cs := #[.int .i64 ((rd_T33 l1_3 x60_1).f0), .int .i64 0, .string (⟨#[]⟩ : ByteArray), .int .i64 0, .int .i64 0]) ?_ 1 _ rfl; (with_reducible repeat (first | refine blk_drewN ?_ _ | refine blk_drew ?_ | refine blk_alloc ?_ _)); refine blk_put (cs := #[.int .i64 0, .int .i64 0, .string (⟨#[]⟩ : ByteArray), .int .i64 0, .int .i64 0]) ?_ 0 _ rfl; (with_reducible repeat (first | refine blk_drewN ?_ _ | refine blk_drew ?_ | refine blk_alloc ?_ _)); exact BK256.out) hb); have n3_ := hB HB hb; clear HO_12; clear BK235; clear BK256; clear HB; have HO_12 := n0_; have BK235 := n1_; have BK256 := n2_; have HB := n3_; clear n0_ n1_ n2_ n3_; clear hb))
            go_ret2
            exact ⟨_, by first | rfl | (simp [errW_none, errW_some] <;> rfl) | (simp [*, errW_none, errW_some] <;> rfl) | (simp (disch := first | assumption | omega) only [Int.tdiv_eq_ediv_of_nonneg, Int.tmod_eq_emod_of_nonneg]; rfl), by first | exact Kd.R_nil _ _ _ _ _ | exact Kd.N_nil _ _ _ _ _ | exact Kd.V_nil _ _ _ _ _ | exact Kd.Q_nil _ _ _ _ _ | exact Kd.S_nil _ _ _ _ _, aH HB⟩
         ·rw [if_neg c24] at H
          exact absurd H (by simp)
        ·rw [if_neg c23] at H
         exact absurd H (by simp)
       ·rw [if_neg c22] at H
        have c22b0 : decide (x60_1 < (l1_3.length : Int)) = false := decide_eq_false c22
        clear c22
        replace H := Option.bind_eq_some_iff.mp H
        obtain ⟨⟨t251, t254⟩, A560, H⟩ := H
        replace H : (some (t251, t254)) = some (r1, r2) := H
        have A56 := Aside0.mk A560
        clear A560
        simp only [Option.some.injEq, Prod.mk.injEq] at H
        obtain ⟨rfl, rfl⟩ := H
        obtain ⟨Ao57, co57, eo57⟩ := Kd.R_slice HO_12.out
        subst eo57
        go_wp2_with (first | ((with_reducible refine gate_callee (f := 34) rfl ?_); refine goA (some 106) Try.func34 #[.slice Ao57 x12_1.length co57] ?_; (with_reducible refine (valuation_checked.calls k1 (fun k_ => some k_ = (.slice Ao57 x12_1.length co57 : Value).ownBlock) (.slice Ao57 x12_1.length co57) x12_1 t251 t254 w _ ?side1 ?side2 A56.out).mono ?_); (case side1 => repeat (first | (with_reducible first | exact HB.out | apply below_alloc | apply pw_below_drewN | apply below_drew1 | refine below_set ?_ GE235.out) | exact HB.out)); (case side2 => exact Kd.R_tight rfl HO_12.out); rintro e w58 ⟨v252, rfl, ho0, hb, hkp⟩; refine ⟨_, rfl, ?_⟩; replace BK235 := Aside0.mk (blk_kept (aB BK235) hkp (fun hs_ => (fun e_ => (Kd.R_ne HO_12.out BK235.out (by decide)) e_) hs_)); have HO253 := Aside0.mk (Kd.R_mono (ok' := fun k_ => True) ho0 (fun k_ hk_ => trivial)); replace HB := Aside0.mk (hb); clear HO_12; clear hb hkp ho0))
        go_ret2
        exact ⟨_, by first | rfl | (simp [errW_none, errW_some] <;> rfl) | (simp [*, errW_none, errW_some] <;> rfl) | (simp (disch := first | assumption | omega) only [Int.tdiv_eq_ediv_of_nonneg, Int.tmod_eq_emod_of_nonneg]; rfl), aR HO253, aH HB⟩
    ·rw [if_neg c9] at H
     have c9b0 : (t246 == 0) = false := beq_eq_false_iff_ne.mpr c9
     have c9b1 : (t246 != 0) = true := bne_iff_ne.mpr c9
     simp only [Option.some.injEq, Prod.mk.injEq] at H
     obtain ⟨rfl, rfl⟩ := H
     go_enter Try.func16, Try.ntmps16
     go_wp2_with (first | ((with_reducible refine gate_dst (N := 3) rfl ?_); refine boxA (N := 3) (cs := #[.string a1_0, .int .i64 a1_1, .slice A1_2 l1_2.length c1_2, .slice A1_3 l1_3.length c1_3]) (t := 25) ?_; intro gb235 hg w59 hbox hb; have n0_ := hB HB hb; have n1_ := Aside0.mk (hbox); have n2_ := gW hg HB; have n3_ := gW hg HB; clear HB; have HB := n0_; have BK235 := n1_; have GW235 := n2_; have GE235 := n3_; clear n0_ n1_ n2_ n3_; clear hb hbox hg; have hcz60_0 : w59.cell? ⟨gb235, 0, none⟩ = some (.string a1_0) := lc BK235 0; have hcz60_1 : w59.cell? ⟨gb235, 1, none⟩ = some (.int .i64 a1_1) := lc BK235 1; have hcz60_2 : w59.cell? ⟨gb235, 2, none⟩ = some (.slice A1_2 l1_2.length c1_2) := lc BK235 2; have hcz60_3 : w59.cell? ⟨gb235, 3, none⟩ = some (.slice A1_3 l1_3.length c1_3) := lc BK235 3; have hfz60_0 := fz BK235 0; have hfz60_1 := fz BK235 1; have hfz60_2 := fz BK235 2; have hfz60_3 := fz BK235 3) | ((with_reducible refine gate_callee (f := 11) rfl ?_); refine goA (some 21) Try.func11 #[.agg #[.string a1_0, .int .i64 a1_1, .slice A1_2 l1_2.length c1_2, .slice A1_3 l1_3.length c1_3]] ?_; (with_reducible refine (valuation_Validate.calls k a1_0 a1_1 _ _ l1_2 _ _ l1_3 t236 _ ?side1 ?side2 ?side3 ?side4 A3.out).mono ?_); (case side1 => repeat (first | exact (Kd.C_below HR1_2.out HB.out) | (with_reducible refine Kd.C_alloc ?_ _) | (with_reducible refine Kd.C_drewN ?_ _) | (with_reducible refine Kd.C_drew ?_))); (case side2 => exact HC1_2.out); (case side3 => repeat (first | exact (Kd.C_below HR1_3.out HB.out) | (with_reducible refine Kd.C_alloc ?_ _) | (with_reducible refine Kd.C_drewN ?_ _) | (with_reducible refine Kd.C_drew ?_))); (case side4 => exact HC1_3.out); rintro e w61 ⟨rfl, hb⟩; refine ⟨_, rfl, ?_⟩; have n0_ := bB BK235 hb; have n1_ := hB HB hb; clear BK235; clear HB; have BK235 := n0_; have HB := n1_; clear n0_ n1_; have hcz62_0 : w61.cell? ⟨gb235, 0, none⟩ = some (.string a1_0) := lc BK235 0; have hcz62_1 : w61.cell? ⟨gb235, 1, none⟩ = some (.int .i64 a1_1) := lc BK235 1; have hcz62_2 : w61.cell? ⟨gb235, 2, none⟩ = some (.slice A1_2 l1_2.length c1_2) := lc BK235 2; have hcz62_3 : w61.cell? ⟨gb235, 3, none⟩ = some (.slice A1_3 l1_3.length c1_3) := lc BK235 3; have hfz62_0 := fz BK235 0; have hfz62_1 := fz BK235 1; have hfz62_2 := fz BK235 2; have hfz62_3 := fz BK235 3; clear hb) | ((with_reducible refine gate_callee (f := 29) rfl ?_); refine goA (some 27) Try.func29 #[.agg #[.string a1_0, .int .i64 a1_1, .slice A1_2 l1_2.length c1_2, .slice A1_3 l1_3.length c1_3]] ?_; (with_reducible refine (valuation_weights.calls a1_0 a1_1 _ _ l1_2 _ _ l1_3 t237 t240 _ ?side1 ?side2 ?side3 ?side4 A5.out).mono ?_); (case side1 => repeat (first | exact (Kd.C_below HR1_2.out HB.out) | (with_reducible refine Kd.C_alloc ?_ _) | (with_reducible refine Kd.C_drewN ?_ _) | (with_reducible refine Kd.C_drew ?_))); (case side2 => exact HC1_2.out); (case side3 => repeat (first | exact (Kd.C_below HR1_3.out HB.out) | (with_reducible refine Kd.C_alloc ?_ _) | (with_reducible refine Kd.C_drewN ?_ _) | (with_reducible refine Kd.C_drew ?_))); (case side4 => exact HC1_3.out); rintro e w63 ⟨v238, v241, rfl, ho0, ho1, hb⟩; refine ⟨_, rfl, ?_⟩; have n0_ := rL ho0 HB; have n1_ := rL ho1 HB; have n2_ := bB BK235 hb; have n3_ := hB HB hb; clear BK235; clear HB; have HO239 := n0_; have HO242 := n1_; have BK235 := n2_; have HB := n3_; clear n0_ n1_ n2_ n3_; obtain ⟨Ao64, co64, eo64⟩ := Kd.R_slice HO239.out; subst eo64; clear hb ho0 ho1) | ((with_reducible refine gate_callee (f := 30) rfl ?_); refine goA (some 32) Try.func30 #[.slice Ao64 t237.length co64] ?_; (with_reducible refine (money_Sum.calls k _ _ t237 t243 t244 _ ?side1 ?side2 A6.out).mono ?_); (case side1 => repeat (first | exact (Kd.R_reads' HO239.out).2.2 | (with_reducible refine Kd.C_alloc ?_ _) | (with_reducible refine Kd.C_drewN ?_ _) | (with_reducible refine Kd.C_drew ?_))); (case side2 => exact (Kd.R_reads' HO239.out).2.1); rintro e w65 ⟨rfl, hb⟩; refine ⟨_, rfl, ?_⟩; have n0_ := rB HO239 hb; have n1_ := rB HO242 hb; have n2_ := bB BK235 hb; have n3_ := hB HB hb; clear HO239; clear HO242; clear BK235; clear HB; have HO239 := n0_; have HO242 := n1_; have BK235 := n2_; have HB := n3_; clear n0_ n1_ n2_ n3_; have hcz66_0 : w65.cell? ⟨gb235, 0, none⟩ = some (.string a1_0) := lc BK235 0; have hcz66_1 : w65.cell? ⟨gb235, 1, none⟩ = some (.int .i64 a1_1) := lc BK235 1; have hcz66_2 : w65.cell? ⟨gb235, 2, none⟩ = some (.slice A1_2 l1_2.length c1_2) := lc BK235 2; have hcz66_3 : w65.cell? ⟨gb235, 3, none⟩ = some (.slice A1_3 l1_3.length c1_3) := lc BK235 3; have hfz66_0 := fz BK235 0; have hfz66_1 := fz BK235 1; have hfz66_2 := fz BK235 2; have hfz66_3 := fz BK235 3; clear hb) | ((with_reducible refine gate_callee (f := 21) rfl ?_); refine goA (some 45) Try.func21 #[.slice A0 l0.length c0, .int .i64 t243, .string a1_0, .int .i64 a1_1, .int .i64 2] ?_; (with_reducible refine (currency_Convert.calls k _ _ l0 t243 a1_0 a1_1 2 t245 t246 _ ?side1 ?side2 A8.out).mono ?_); (case side1 => repeat (first | exact (Kd.C_below HR0.out HB.out) | (with_reducible refine Kd.C_alloc ?_ _) | (with_reducible refine Kd.C_drewN ?_ _) | (with_reducible refine Kd.C_drew ?_))); (case side2 => exact HC0.out); rintro e w67 ⟨rfl, hb⟩; refine ⟨_, rfl, ?_⟩; have n0_ := rB HO239 hb; have n1_ := rB HO242 hb; have n2_ := bB BK235 hb; have n3_ := hB HB hb; clear HO239; clear HO242; clear BK235; clear HB; have HO239 := n0_; have HO242 := n1_; have BK235 := n2_; have HB := n3_; clear n0_ n1_ n2_ n3_; clear hb))
     go_ret2
     exact ⟨_, by first | rfl | (simp [errW_none, errW_some] <;> rfl) | (simp [*, errW_none, errW_some] <;> rfl) | (simp (disch := first | assumption | omega) only [Int.tdiv_eq_ediv_of_nonneg, Int.tmod_eq_emod_of_nonneg]; rfl), by first | exact Kd.R_nil _ _ _ _ _ | exact Kd.N_nil _ _ _ _ _ | exact Kd.V_nil _ _ _ _ _ | exact Kd.Q_nil _ _ _ _ _ | exact Kd.S_nil _ _ _ _ _, aH HB⟩
   ·rw [if_neg c7] at H
    have c7b0 : (t244 == 0) = false := beq_eq_false_iff_ne.mpr c7
    have c7b1 : (t244 != 0) = true := bne_iff_ne.mpr c7
    simp only [Option.some.injEq, Prod.mk.injEq] at H
    obtain ⟨rfl, rfl⟩ := H
    go_enter Try.func16, Try.ntmps16
    go_wp2_with (first | ((with_reducible refine gate_dst (N := 3) rfl ?_); refine boxA (N := 3) (cs := #[.string a1_0, .int .i64 a1_1, .slice A1_2 l1_2.length c1_2, .slice A1_3 l1_3.length c1_3]) (t := 25) ?_; intro gb235 hg w68 hbox hb; have n0_ := hB HB hb; have n1_ := Aside0.mk (hbox); have n2_ := gW hg HB; have n3_ := gW hg HB; clear HB; have HB := n0_; have BK235 := n1_; have GW235 := n2_; have GE235 := n3_; clear n0_ n1_ n2_ n3_; clear hb hbox hg; have hcz69_0 : w68.cell? ⟨gb235, 0, none⟩ = some (.string a1_0) := lc BK235 0; have hcz69_1 : w68.cell? ⟨gb235, 1, none⟩ = some (.int .i64 a1_1) := lc BK235 1; have hcz69_2 : w68.cell? ⟨gb235, 2, none⟩ = some (.slice A1_2 l1_2.length c1_2) := lc BK235 2; have hcz69_3 : w68.cell? ⟨gb235, 3, none⟩ = some (.slice A1_3 l1_3.length c1_3) := lc BK235 3; have hfz69_0 := fz BK235 0; have hfz69_1 := fz BK235 1; have hfz69_2 := fz BK235 2; have hfz69_3 := fz BK235 3) | ((with_reducible refine gate_callee (f := 11) rfl ?_); refine goA (some 21) Try.func11 #[.agg #[.string a1_0, .int .i64 a1_1, .slice A1_2 l1_2.length c1_2, .slice A1_3 l1_3.length c1_3]] ?_; (with_reducible refine (valuation_Validate.calls k a1_0 a1_1 _ _ l1_2 _ _ l1_3 t236 _ ?side1 ?side2 ?side3 ?side4 A3.out).mono ?_); (case side1 => repeat (first | exact (Kd.C_below HR1_2.out HB.out) | (with_reducible refine Kd.C_alloc ?_ _) | (with_reducible refine Kd.C_drewN ?_ _) | (with_reducible refine Kd.C_drew ?_))); (case side2 => exact HC1_2.out); (case side3 => repeat (first | exact (Kd.C_below HR1_3.out HB.out) | (with_reducible refine Kd.C_alloc ?_ _) | (with_reducible refine Kd.C_drewN ?_ _) | (with_reducible refine Kd.C_drew ?_))); (case side4 => exact HC1_3.out); rintro e w70 ⟨rfl, hb⟩; refine ⟨_, rfl, ?_⟩; have n0_ := bB BK235 hb; have n1_ := hB HB hb; clear BK235; clear HB; have BK235 := n0_; have HB := n1_; clear n0_ n1_; have hcz71_0 : w70.cell? ⟨gb235, 0, none⟩ = some (.string a1_0) := lc BK235 0; have hcz71_1 : w70.cell? ⟨gb235, 1, none⟩ = some (.int .i64 a1_1) := lc BK235 1; have hcz71_2 : w70.cell? ⟨gb235, 2, none⟩ = some (.slice A1_2 l1_2.length c1_2) := lc BK235 2; have hcz71_3 : w70.cell? ⟨gb235, 3, none⟩ = some (.slice A1_3 l1_3.length c1_3) := lc BK235 3; have hfz71_0 := fz BK235 0; have hfz71_1 := fz BK235 1; have hfz71_2 := fz BK235 2; have hfz71_3 := fz BK235 3; clear hb) | ((with_reducible refine gate_callee (f := 29) rfl ?_); refine goA (some 27) Try.func29 #[.agg #[.string a1_0, .int .i64 a1_1, .slice A1_2 l1_2.length c1_2, .slice A1_3 l1_3.length c1_3]] ?_; (with_reducible refine (valuation_weights.calls a1_0 a1_1 _ _ l1_2 _ _ l1_3 t237 t240 _ ?side1 ?side2 ?side3 ?side4 A5.out).mono ?_); (case side1 => repeat (first | exact (Kd.C_below HR1_2.out HB.out) | (with_reducible refine Kd.C_alloc ?_ _) | (with_reducible refine Kd.C_drewN ?_ _) | (with_reducible refine Kd.C_drew ?_))); (case side2 => exact HC1_2.out); (case side3 => repeat (first | exact (Kd.C_below HR1_3.out HB.out) | (with_reducible refine Kd.C_alloc ?_ _) | (with_reducible refine Kd.C_drewN ?_ _) | (with_reducible refine Kd.C_drew ?_))); (case side4 => exact HC1_3.out); rintro e w72 ⟨v238, v241, rfl, ho0, ho1, hb⟩; refine ⟨_, rfl, ?_⟩; have n0_ := rL ho0 HB; have n1_ := rL ho1 HB; have n2_ := bB BK235 hb; have n3_ := hB HB hb; clear BK235; clear HB; have HO239 := n0_; have HO242 := n1_; have BK235 := n2_; have HB := n3_; clear n0_ n1_ n2_ n3_; obtain ⟨Ao73, co73, eo73⟩ := Kd.R_slice HO239.out; subst eo73; clear hb ho0 ho1) | ((with_reducible refine gate_callee (f := 30) rfl ?_); refine goA (some 32) Try.func30 #[.slice Ao73 t237.length co73] ?_; (with_reducible refine (money_Sum.calls k _ _ t237 t243 t244 _ ?side1 ?side2 A6.out).mono ?_); (case side1 => repeat (first | exact (Kd.R_reads' HO239.out).2.2 | (with_reducible refine Kd.C_alloc ?_ _) | (with_reducible refine Kd.C_drewN ?_ _) | (with_reducible refine Kd.C_drew ?_))); (case side2 => exact (Kd.R_reads' HO239.out).2.1); rintro e w74 ⟨rfl, hb⟩; refine ⟨_, rfl, ?_⟩; have n0_ := rB HO239 hb; have n1_ := rB HO242 hb; have n2_ := bB BK235 hb; have n3_ := hB HB hb; clear HO239; clear HO242; clear BK235; clear HB; have HO239 := n0_; have HO242 := n1_; have BK235 := n2_; have HB := n3_; clear n0_ n1_ n2_ n3_; clear hb))
    go_ret2
    exact ⟨_, by first | rfl | (simp [errW_none, errW_some] <;> rfl) | (simp [*, errW_none, errW_some] <;> rfl) | (simp (disch := first | assumption | omega) only [Int.tdiv_eq_ediv_of_nonneg, Int.tmod_eq_emod_of_nonneg]; rfl), by first | exact Kd.R_nil _ _ _ _ _ | exact Kd.N_nil _ _ _ _ _ | exact Kd.V_nil _ _ _ _ _ | exact Kd.Q_nil _ _ _ _ _ | exact Kd.S_nil _ _ _ _ _, aH HB⟩
  ·rw [if_neg c4] at H
   have c4b0 : (t236 == 0) = false := beq_eq_false_iff_ne.mpr c4
   have c4b1 : (t236 != 0) = true := bne_iff_ne.mpr c4
   simp only [Option.some.injEq, Prod.mk.injEq] at H
   obtain ⟨rfl, rfl⟩ := H
   go_enter Try.func16, Try.ntmps16
   go_wp2_with (first | ((with_reducible refine gate_dst (N := 3) rfl ?_); refine boxA (N := 3) (cs := #[.string a1_0, .int .i64 a1_1, .slice A1_2 l1_2.length c1_2, .slice A1_3 l1_3.length c1_3]) (t := 25) ?_; intro gb235 hg w75 hbox hb; have n0_ := hB HB hb; have n1_ := Aside0.mk (hbox); have n2_ := gW hg HB; have n3_ := gW hg HB; clear HB; have HB := n0_; have BK235 := n1_; have GW235 := n2_; have GE235 := n3_; clear n0_ n1_ n2_ n3_; clear hb hbox hg; have hcz76_0 : w75.cell? ⟨gb235, 0, none⟩ = some (.string a1_0) := lc BK235 0; have hcz76_1 : w75.cell? ⟨gb235, 1, none⟩ = some (.int .i64 a1_1) := lc BK235 1; have hcz76_2 : w75.cell? ⟨gb235, 2, none⟩ = some (.slice A1_2 l1_2.length c1_2) := lc BK235 2; have hcz76_3 : w75.cell? ⟨gb235, 3, none⟩ = some (.slice A1_3 l1_3.length c1_3) := lc BK235 3; have hfz76_0 := fz BK235 0; have hfz76_1 := fz BK235 1; have hfz76_2 := fz BK235 2; have hfz76_3 := fz BK235 3) | ((with_reducible refine gate_callee (f := 11) rfl ?_); refine goA (some 21) Try.func11 #[.agg #[.string a1_0, .int .i64 a1_1, .slice A1_2 l1_2.length c1_2, .slice A1_3 l1_3.length c1_3]] ?_; (with_reducible refine (valuation_Validate.calls k a1_0 a1_1 _ _ l1_2 _ _ l1_3 t236 _ ?side1 ?side2 ?side3 ?side4 A3.out).mono ?_); (case side1 => repeat (first | exact (Kd.C_below HR1_2.out HB.out) | (with_reducible refine Kd.C_alloc ?_ _) | (with_reducible refine Kd.C_drewN ?_ _) | (with_reducible refine Kd.C_drew ?_))); (case side2 => exact HC1_2.out); (case side3 => repeat (first | exact (Kd.C_below HR1_3.out HB.out) | (with_reducible refine Kd.C_alloc ?_ _) | (with_reducible refine Kd.C_drewN ?_ _) | (with_reducible refine Kd.C_drew ?_))); (case side4 => exact HC1_3.out); rintro e w77 ⟨rfl, hb⟩; refine ⟨_, rfl, ?_⟩; have n0_ := bB BK235 hb; have n1_ := hB HB hb; clear BK235; clear HB; have BK235 := n0_; have HB := n1_; clear n0_ n1_; clear hb))
   go_ret2
   exact ⟨_, by first | rfl | (simp [errW_none, errW_some] <;> rfl) | (simp [*, errW_none, errW_some] <;> rfl) | (simp (disch := first | assumption | omega) only [Int.tdiv_eq_ediv_of_nonneg, Int.tmod_eq_emod_of_nonneg]; rfl), by first | exact Kd.R_nil _ _ _ _ _ | exact Kd.N_nil _ _ _ _ _ | exact Kd.V_nil _ _ _ _ _ | exact Kd.Q_nil _ _ _ _ _ | exact Kd.S_nil _ _ _ _ _, aH HB⟩

end Go.Proofs.Yteoieencagcgdaa.PX
end
section
namespace Go.Proofs.Yteoieencagcgdaa.PX
open Go.RowKit Go.Proofs.YteoieencagcgdaaW.PrintWords Go.Proofs.YteoieencagcgdaaW.PrintLast Go.Proofs.YteoieencagcgdaaW.PrintMore
attribute [local go_sem] max2_int min2_int max_two min_two max_three min_three max_four min_four
set_option linter.unusedVariables false
set_option linter.unusedSimpArgs false

def valuation_Total.f (k : Nat) (l0 : List (S61)) (a1_0 : ByteArray) (a1_1 : Int) (l1_2 : List (S35)) (l1_3 : List (S33)) : Option (Int × Int) := (valuation_Values.f k l0 a1_0 a1_1 l1_2 l1_3).bind fun bt268 => (if bt268.2 = 0 then ((money_Sum.f k bt268.1).bind fun bt272 => (some (bt272.1, bt272.2))) else (some (0, bt268.2)))
set_option maxHeartbeats 8000000 in
set_option maxRecDepth 100000 in
theorem valuation_Total.calls (k : Nat) (A0 : Option Addr) (c0 : Nat) (l0 : List (S61)) (a1_0 : ByteArray) (a1_1 : Int) (A1_2 : Option Addr) (c1_2 : Nat) (l1_2 : List (S35)) (A1_3 : Option Addr) (c1_3 : Nat) (l1_3 : List (S33)) (r1 : Int) (r2 : Int) (w : World) (hr0 : Kd.C k61 w A0 l0.length l0) (hc0 : l0.length ≤ c0) (hr1_2 : Kd.C k35 w A1_2 l1_2.length l1_2) (hc1_2 : l1_2.length ≤ c1_2) (hr1_3 : Kd.C k33 w A1_3 l1_3.length l1_3) (hc1_3 : l1_3.length ≤ c1_3) (h : valuation_Total.f k l0 a1_0 a1_1 l1_2 l1_3 = some (r1, r2)) :
   Calls Try.prog 18 #[.slice A0 l0.length c0, .agg #[.string a1_0, .int .i64 a1_1, .slice A1_2 l1_2.length c1_2, .slice A1_3 l1_3.length c1_3]] w fun e w' => e = .returned (.tuple #[.int .i64 r1, .int .i64 r2]) ∧ Below w.heap.size w w' := by
  have hu25 := Try.underlying25
  have HR0 := Aside0.mk hr0
  have HC0 := Aside0.mk hc0
  clear hr0 hc0
  have HR1_2 := Aside0.mk hr1_2
  have HC1_2 := Aside0.mk hc1_2
  clear hr1_2 hc1_2
  have HR1_3 := Aside0.mk hr1_3
  have HC1_3 := Aside0.mk hc1_3
  clear hr1_3 hc1_3
  have HB := Aside0.mk (Below.refl w.heap.size w)
  have H : ((valuation_Values.f k l0 a1_0 a1_1 l1_2 l1_3).bind fun bt268 => (if bt268.2 = 0 then ((money_Sum.f k bt268.1).bind fun bt272 => (some (bt272.1, bt272.2))) else (some (0, bt268.2)))) = some (r1, r2) := h
  clear h
  replace H := Option.bind_eq_some_iff.mp H
  obtain ⟨⟨t268, t271⟩, A30, H⟩ := H
  replace H : (if t271 = 0 then ((money_Sum.f k t268).bind fun bt272 => (some (bt272.1, bt272.2))) else (some (0, t271))) = some (r1, r2) := H
  have A3 := Aside0.mk A30
  clear A30
  by_cases c4 : t271 = 0
  ·rw [if_pos c4] at H
   have c4b0 : (t271 == 0) = true := beq_iff_eq.mpr c4
   have c4b1 : (t271 != 0) = false := bne_eq_false_iff_eq.mpr c4
   clear c4
   replace H := Option.bind_eq_some_iff.mp H
   obtain ⟨⟨t272, t273⟩, A50, H⟩ := H
   replace H : (some (t272, t273)) = some (r1, r2) := H
   have A5 := Aside0.mk A50
   clear A50
   simp only [Option.some.injEq, Prod.mk.injEq] at H
   obtain ⟨rfl, rfl⟩ := H
   go_enter Try.func18, Try.ntmps18
   go_wp2_with (first | ((with_reducible refine gate_dst (N := 3) rfl ?_); refine boxA (N := 3) (cs := #[.string a1_0, .int .i64 a1_1, .slice A1_2 l1_2.length c1_2, .slice A1_3 l1_3.length c1_3]) (t := 25) ?_; intro gb267 hg w6 hbox hb; have n0_ := hB HB hb; have n1_ := Aside0.mk (hbox); have n2_ := gW hg HB; have n3_ := gW hg HB; clear HB; have HB := n0_; have BK267 := n1_; have GW267 := n2_; have GE267 := n3_; clear n0_ n1_ n2_ n3_; clear hb hbox hg; have hcz7_0 : w6.cell? ⟨gb267, 0, none⟩ = some (.string a1_0) := lc BK267 0; have hcz7_1 : w6.cell? ⟨gb267, 1, none⟩ = some (.int .i64 a1_1) := lc BK267 1; have hcz7_2 : w6.cell? ⟨gb267, 2, none⟩ = some (.slice A1_2 l1_2.length c1_2) := lc BK267 2; have hcz7_3 : w6.cell? ⟨gb267, 3, none⟩ = some (.slice A1_3 l1_3.length c1_3) := lc BK267 3; have hfz7_0 := fz BK267 0; have hfz7_1 := fz BK267 1; have hfz7_2 := fz BK267 2; have hfz7_3 := fz BK267 3) | ((with_reducible refine gate_callee (f := 16) rfl ?_); refine goA (some 11) Try.func16 #[.slice A0 l0.length c0, .agg #[.string a1_0, .int .i64 a1_1, .slice A1_2 l1_2.length c1_2, .slice A1_3 l1_3.length c1_3]] ?_; (with_reducible refine (valuation_Values.calls k _ _ l0 a1_0 a1_1 _ _ l1_2 _ _ l1_3 t268 t271 _ ?side1 ?side2 ?side3 ?side4 ?side5 ?side6 A3.out).mono ?_); (case side1 => repeat (first | exact (Kd.C_below HR0.out HB.out) | (with_reducible refine Kd.C_alloc ?_ _) | (with_reducible refine Kd.C_drewN ?_ _) | (with_reducible refine Kd.C_drew ?_))); (case side2 => exact HC0.out); (case side3 => repeat (first | exact (Kd.C_below HR1_2.out HB.out) | (with_reducible refine Kd.C_alloc ?_ _) | (with_reducible refine Kd.C_drewN ?_ _) | (with_reducible refine Kd.C_drew ?_))); (case side4 => exact HC1_2.out); (case side5 => repeat (first | exact (Kd.C_below HR1_3.out HB.out) | (with_reducible refine Kd.C_alloc ?_ _) | (with_reducible refine Kd.C_drewN ?_ _) | (with_reducible refine Kd.C_drew ?_))); (case side6 => exact HC1_3.out); rintro e w8 ⟨v269, rfl, ho0, hb⟩; refine ⟨_, rfl, ?_⟩; have n0_ := rL ho0 HB; have n1_ := bB BK267 hb; have n2_ := hB HB hb; clear BK267; clear HB; have HO270 := n0_; have BK267 := n1_; have HB := n2_; clear n0_ n1_ n2_; obtain ⟨Ao9, co9, eo9⟩ := Kd.R_slice HO270.out; subst eo9; clear hb ho0) | ((with_reducible refine gate_callee (f := 30) rfl ?_); refine goA (some 18) Try.func30 #[.slice Ao9 t268.length co9] ?_; (with_reducible refine (money_Sum.calls k _ _ t268 t272 t273 _ ?side1 ?side2 A5.out).mono ?_); (case side1 => repeat (first | exact (Kd.R_reads' HO270.out).2.2 | (with_reducible refine Kd.C_alloc ?_ _) | (with_reducible refine Kd.C_drewN ?_ _) | (with_reducible refine Kd.C_drew ?_))); (case side2 => exact (Kd.R_reads' HO270.out).2.1); rintro e w10 ⟨rfl, hb⟩; refine ⟨_, rfl, ?_⟩; have n0_ := rB HO270 hb; have n1_ := bB BK267 hb; have n2_ := hB HB hb; clear HO270; clear BK267; clear HB; have HO270 := n0_; have BK267 := n1_; have HB := n2_; clear n0_ n1_ n2_; clear hb))
   go_ret2
   exact ⟨by first | rfl | (simp [errW_none, errW_some] <;> rfl) | (simp [*, errW_none, errW_some] <;> rfl) | (simp (disch := first | assumption | omega) only [Int.tdiv_eq_ediv_of_nonneg, Int.tmod_eq_emod_of_nonneg]; rfl), aH HB⟩
  ·rw [if_neg c4] at H
   have c4b0 : (t271 == 0) = false := beq_eq_false_iff_ne.mpr c4
   have c4b1 : (t271 != 0) = true := bne_iff_ne.mpr c4
   simp only [Option.some.injEq, Prod.mk.injEq] at H
   obtain ⟨rfl, rfl⟩ := H
   go_enter Try.func18, Try.ntmps18
   go_wp2_with (first | ((with_reducible refine gate_dst (N := 3) rfl ?_); refine boxA (N := 3) (cs := #[.string a1_0, .int .i64 a1_1, .slice A1_2 l1_2.length c1_2, .slice A1_3 l1_3.length c1_3]) (t := 25) ?_; intro gb267 hg w11 hbox hb; have n0_ := hB HB hb; have n1_ := Aside0.mk (hbox); have n2_ := gW hg HB; have n3_ := gW hg HB; clear HB; have HB := n0_; have BK267 := n1_; have GW267 := n2_; have GE267 := n3_; clear n0_ n1_ n2_ n3_; clear hb hbox hg; have hcz12_0 : w11.cell? ⟨gb267, 0, none⟩ = some (.string a1_0) := lc BK267 0; have hcz12_1 : w11.cell? ⟨gb267, 1, none⟩ = some (.int .i64 a1_1) := lc BK267 1; have hcz12_2 : w11.cell? ⟨gb267, 2, none⟩ = some (.slice A1_2 l1_2.length c1_2) := lc BK267 2; have hcz12_3 : w11.cell? ⟨gb267, 3, none⟩ = some (.slice A1_3 l1_3.length c1_3) := lc BK267 3; have hfz12_0 := fz BK267 0; have hfz12_1 := fz BK267 1; have hfz12_2 := fz BK267 2; have hfz12_3 := fz BK267 3) | ((with_reducible refine gate_callee (f := 16) rfl ?_); refine goA (some 11) Try.func16 #[.slice A0 l0.length c0, .agg #[.string a1_0, .int .i64 a1_1, .slice A1_2 l1_2.length c1_2, .slice A1_3 l1_3.length c1_3]] ?_; (with_reducible refine (valuation_Values.calls k _ _ l0 a1_0 a1_1 _ _ l1_2 _ _ l1_3 t268 t271 _ ?side1 ?side2 ?side3 ?side4 ?side5 ?side6 A3.out).mono ?_); (case side1 => repeat (first | exact (Kd.C_below HR0.out HB.out) | (with_reducible refine Kd.C_alloc ?_ _) | (with_reducible refine Kd.C_drewN ?_ _) | (with_reducible refine Kd.C_drew ?_))); (case side2 => exact HC0.out); (case side3 => repeat (first | exact (Kd.C_below HR1_2.out HB.out) | (with_reducible refine Kd.C_alloc ?_ _) | (with_reducible refine Kd.C_drewN ?_ _) | (with_reducible refine Kd.C_drew ?_))); (case side4 => exact HC1_2.out); (case side5 => repeat (first | exact (Kd.C_below HR1_3.out HB.out) | (with_reducible refine Kd.C_alloc ?_ _) | (with_reducible refine Kd.C_drewN ?_ _) | (with_reducible refine Kd.C_drew ?_))); (case side6 => exact HC1_3.out); rintro e w13 ⟨v269, rfl, ho0, hb⟩; refine ⟨_, rfl, ?_⟩; have n0_ := rL ho0 HB; have n1_ := bB BK267 hb; have n2_ := hB HB hb; clear BK267; clear HB; have HO270 := n0_; have BK267 := n1_; have HB := n2_; clear n0_ n1_ n2_; clear hb ho0))
   go_ret2
   exact ⟨by first | rfl | (simp [errW_none, errW_some] <;> rfl) | (simp [*, errW_none, errW_some] <;> rfl) | (simp (disch := first | assumption | omega) only [Int.tdiv_eq_ediv_of_nonneg, Int.tmod_eq_emod_of_nonneg]; rfl), aH HB⟩

end Go.Proofs.Yteoieencagcgdaa.PX
end
section
namespace Go.Proofs.Yteoieencagcgdaa.PX
open Go.RowKit Go.Proofs.YteoieencagcgdaaW.PrintWords Go.Proofs.YteoieencagcgdaaW.PrintLast Go.Proofs.YteoieencagcgdaaW.PrintMore
attribute [local go_sem] max2_int min2_int max_two min_two max_three min_three max_four min_four
set_option linter.unusedVariables false
set_option linter.unusedSimpArgs false

def customslaw17_awake.f (k : Nat)  : Option (Bool) := (some (([(⟨100, 0⟩ : S35), (⟨200, 0⟩ : S35)] : List (S35)) : List (S35))).bind fun y276 => ((some (([(⟨1, 10, (⟨#[69, 85, 82]⟩ : ByteArray), 1, 0⟩ : S33)] : List (S33)) : List (S33))).bind fun y279 => ((valuation_Values.f k ([] : List (S61)) (⟨#[69, 85, 82]⟩ : ByteArray) 0 y276 y279).bind fun bt283 => ((valuation_Total.f k ([] : List (S61)) (⟨#[69, 85, 82]⟩ : ByteArray) 0 y276 y279).bind fun bt287 => (if bt283.2 = 0 then (if bt287.2 = 0 then ((customsref02_Same.f k bt283.1 (([103, 207] : List Int))).bind fun t292 => (if t292 = true then (if bt287.1 = 310 then ((valuation_Validate.f k (⟨#[]⟩ : ByteArray) 0 ([] : List (S35)) ([] : List (S33))).bind fun t293 => (some (t293 == 8))) else (some false)) else (some false))) else (some false)) else (some false)))))
set_option maxHeartbeats 8000000 in
set_option maxRecDepth 100000 in
theorem customslaw17_awake.calls (k : Nat)  (r : Bool) (w : World) (h : customslaw17_awake.f k  = some r) (hT : r = true) :
   Calls Try.prog 14 #[] w fun e w' => e = .returned (.bool r) ∧ Below w.heap.size w w' := by
  have hu35 := Try.underlying35
  have hu33 := Try.underlying33
  have hu25 := Try.underlying25
  have HB := Aside0.mk (Below.refl w.heap.size w)
  have H : ((some (([(⟨100, 0⟩ : S35), (⟨200, 0⟩ : S35)] : List (S35)) : List (S35))).bind fun y276 => ((some (([(⟨1, 10, (⟨#[69, 85, 82]⟩ : ByteArray), 1, 0⟩ : S33)] : List (S33)) : List (S33))).bind fun y279 => ((valuation_Values.f k ([] : List (S61)) (⟨#[69, 85, 82]⟩ : ByteArray) 0 y276 y279).bind fun bt283 => ((valuation_Total.f k ([] : List (S61)) (⟨#[69, 85, 82]⟩ : ByteArray) 0 y276 y279).bind fun bt287 => (if bt283.2 = 0 then (if bt287.2 = 0 then ((customsref02_Same.f k bt283.1 (([103, 207] : List Int))).bind fun t292 => (if t292 = true then (if bt287.1 = 310 then ((valuation_Validate.f k (⟨#[]⟩ : ByteArray) 0 ([] : List (S35)) ([] : List (S33))).bind fun t293 => (some (t293 == 8))) else (some false)) else (some false))) else (some false)) else (some false)))))) = some r := h
  clear h
  have HT := Aside0.mk hT
  clear hT
  obtain ⟨y276, hy276⟩ : ∃ y_ : List (S35), y_ = (([(⟨100, 0⟩ : S35), (⟨200, 0⟩ : S35)] : List (S35))) := ⟨_, rfl⟩
  replace H : ((some (([(⟨1, 10, (⟨#[69, 85, 82]⟩ : ByteArray), 1, 0⟩ : S33)] : List (S33)) : List (S33))).bind fun y279 => ((valuation_Values.f k ([] : List (S61)) (⟨#[69, 85, 82]⟩ : ByteArray) 0 y276 y279).bind fun bt283 => ((valuation_Total.f k ([] : List (S61)) (⟨#[69, 85, 82]⟩ : ByteArray) 0 y276 y279).bind fun bt287 => (if bt283.2 = 0 then (if bt287.2 = 0 then ((customsref02_Same.f k bt283.1 (([103, 207] : List Int))).bind fun t292 => (if t292 = true then (if bt287.1 = 310 then ((valuation_Validate.f k (⟨#[]⟩ : ByteArray) 0 ([] : List (S35)) ([] : List (S33))).bind fun t293 => (some (t293 == 8))) else (some false)) else (some false))) else (some false)) else (some false))))) = some r := by first | (rw [hy276]; with_reducible exact H) | (have H2_ := (Option.bind_some _ _).symm.trans H; rw [hy276]; with_reducible exact H2_) | (have H2_ := (Option.bind_some _ _).symm.trans H; with_reducible exact H2_) | with_reducible exact H | (rw [hy276]; exact H) | exact H
  have Ny276 := Aside0.mk hy276
  clear hy276
  obtain ⟨y279, hy279⟩ : ∃ y_ : List (S33), y_ = (([(⟨1, 10, (⟨#[69, 85, 82]⟩ : ByteArray), 1, 0⟩ : S33)] : List (S33))) := ⟨_, rfl⟩
  replace H : ((valuation_Values.f k ([] : List (S61)) (⟨#[69, 85, 82]⟩ : ByteArray) 0 y276 y279).bind fun bt283 => ((valuation_Total.f k ([] : List (S61)) (⟨#[69, 85, 82]⟩ : ByteArray) 0 y276 y279).bind fun bt287 => (if bt283.2 = 0 then (if bt287.2 = 0 then ((customsref02_Same.f k bt283.1 (([103, 207] : List Int))).bind fun t292 => (if t292 = true then (if bt287.1 = 310 then ((valuation_Validate.f k (⟨#[]⟩ : ByteArray) 0 ([] : List (S35)) ([] : List (S33))).bind fun t293 => (some (t293 == 8))) else (some false)) else (some false))) else (some false)) else (some false)))) = some r := by first | (rw [hy279]; with_reducible exact H) | (have H2_ := (Option.bind_some _ _).symm.trans H; rw [hy279]; with_reducible exact H2_) | (have H2_ := (Option.bind_some _ _).symm.trans H; with_reducible exact H2_) | with_reducible exact H | (rw [hy279]; exact H) | exact H
  have Ny279 := Aside0.mk hy279
  clear hy279
  replace H := Option.bind_eq_some_iff.mp H
  obtain ⟨⟨t283, t286⟩, A10, H⟩ := H
  replace H : ((valuation_Total.f k ([] : List (S61)) (⟨#[69, 85, 82]⟩ : ByteArray) 0 y276 y279).bind fun bt287 => (if t286 = 0 then (if bt287.2 = 0 then ((customsref02_Same.f k t283 (([103, 207] : List Int))).bind fun t292 => (if t292 = true then (if bt287.1 = 310 then ((valuation_Validate.f k (⟨#[]⟩ : ByteArray) 0 ([] : List (S35)) ([] : List (S33))).bind fun t293 => (some (t293 == 8))) else (some false)) else (some false))) else (some false)) else (some false))) = some r := H
  have A1 := Aside0.mk A10
  clear A10
  replace H := Option.bind_eq_some_iff.mp H
  obtain ⟨⟨t287, t288⟩, A20, H⟩ := H
  replace H : (if t286 = 0 then (if t288 = 0 then ((customsref02_Same.f k t283 (([103, 207] : List Int))).bind fun t292 => (if t292 = true then (if t287 = 310 then ((valuation_Validate.f k (⟨#[]⟩ : ByteArray) 0 ([] : List (S35)) ([] : List (S33))).bind fun t293 => (some (t293 == 8))) else (some false)) else (some false))) else (some false)) else (some false)) = some r := H
  have A2 := Aside0.mk A20
  clear A20
  by_cases c3 : t286 = 0
  ·rw [if_pos c3] at H
   have c3b0 : (t286 == 0) = true := beq_iff_eq.mpr c3
   have c3b1 : (t286 != 0) = false := bne_eq_false_iff_eq.mpr c3
   clear c3
   by_cases c4 : t288 = 0
   ·rw [if_pos c4] at H
    have c4b0 : (t288 == 0) = true := beq_iff_eq.mpr c4
    have c4b1 : (t288 != 0) = false := bne_eq_false_iff_eq.mpr c4
    clear c4
    obtain ⟨y289, hy289⟩ : ∃ y_ : List Int, y_ = (([103, 207] : List Int)) := ⟨_, rfl⟩
    replace H : ((customsref02_Same.f k t283 y289).bind fun t292 => (if t292 = true then (if t287 = 310 then ((valuation_Validate.f k (⟨#[]⟩ : ByteArray) 0 ([] : List (S35)) ([] : List (S33))).bind fun t293 => (some (t293 == 8))) else (some false)) else (some false))) = some r := by first | (rw [hy289]; with_reducible exact H) | (have H2_ := (Option.bind_some _ _).symm.trans H; rw [hy289]; with_reducible exact H2_) | (have H2_ := (Option.bind_some _ _).symm.trans H; with_reducible exact H2_) | with_reducible exact H | (rw [hy289]; exact H) | exact H
    have Ny289 := Aside0.mk hy289
    clear hy289
    replace H := Option.bind_eq_some_iff.mp H
    obtain ⟨t292, A50, H⟩ := H
    replace H : (if t292 = true then (if t287 = 310 then ((valuation_Validate.f k (⟨#[]⟩ : ByteArray) 0 ([] : List (S35)) ([] : List (S33))).bind fun t293 => (some (t293 == 8))) else (some false)) else (some false)) = some r := H
    have A5 := Aside0.mk A50
    clear A50
    by_cases c6 : t292 = true
    ·subst c6
     have H1 : (if t287 = 310 then ((valuation_Validate.f k (⟨#[]⟩ : ByteArray) 0 ([] : List (S35)) ([] : List (S33))).bind fun t293 => (some (t293 == 8))) else (some false)) = some r := by rw [if_pos rfl] at H; exact H
     clear H
     have H := H1
     clear H1
     by_cases c7 : t287 = 310
     ·rw [if_pos c7] at H
      have c7b0 : (t287 == 310) = true := beq_iff_eq.mpr c7
      have c7b1 : (t287 != 310) = false := bne_eq_false_iff_eq.mpr c7
      clear c7
      replace H := Option.bind_eq_some_iff.mp H
      obtain ⟨t293, A80, H⟩ := H
      replace H : (some (t293 == 8)) = some r := H
      have A8 := Aside0.mk A80
      clear A80
      obtain rfl := Option.some.inj H
      simp only [Option.some.injEq, Prod.mk.injEq] at H
      obtain ⟨rfl⟩ := H
      go_enter Try.func14, Try.ntmps14
      go_wp2_with (first | ((with_reducible refine gate_dst (N := 8) rfl ?_); (try (refine gate_guard (by rfl) ?_; dsimp only)); refine Kd.R_lit k35 _ 35 ?hg (N := 8) ?hd (xs := ([(⟨100, 0⟩ : S35), (⟨200, 0⟩ : S35)] : List (S35))) (inner := [.int .i64 100, .int .i64 0, .int .i64 200, .int .i64 0]) (ok := fun _ => True) (okp := fun _ => True) ?hr ?hp (fun _ hk => hk) trivial (Below.refl _ _) (Nat.le_refl _) (by simp) ?_; (case hd => rfl); (case hg => rfl); (case hr => first | (go_simp; done) | (go_simp; rfl)); (case hp => exact (Reps.c2 (show Kd.M k35 _ _ _ (⟨100, 0⟩ : S35) [.int .i64 100, .int .i64 0] from (k35_mkM _ _ _ (⟨100, 0⟩ : S35) )) (Reps.c2 (show Kd.M k35 _ _ _ (⟨200, 0⟩ : S35) [.int .i64 200, .int .i64 0] from (k35_mkM _ _ _ (⟨200, 0⟩ : S35) )) (Reps.none _ _)))); intro v277 w9 ho10 hb hg_ hnew_; clear hg_ hnew_; (first | rw [← Ny276.out] at ho10 | (simp only [Int.reduceToNat] at ho10; rw [← Ny276.out] at ho10)); have n0_ := rL ho10 HB; have n1_ := hB HB hb; clear HB; have HO278 := n0_; have HB := n1_; clear n0_ n1_; clear hb ho10) | ((with_reducible refine gate_dst (N := 10) rfl ?_); (try (refine gate_guard (by rfl) ?_; dsimp only)); refine Kd.R_lit k33 _ 33 ?hg (N := 10) ?hd (xs := ([(⟨1, 10, (⟨#[69, 85, 82]⟩ : ByteArray), 1, 0⟩ : S33)] : List (S33))) (inner := [.int .i64 1, .int .i64 10, .string (⟨#[69, 85, 82]⟩ : ByteArray), .int .i64 1, .int .i64 0]) (ok := fun _ => True) (okp := fun _ => True) ?hr ?hp (fun _ hk => hk) trivial (Below.refl _ _) (Nat.le_refl _) (by simp) ?_; (case hd => rfl); (case hg => rfl); (case hr => first | (go_simp; done) | (go_simp; rfl)); (case hp => exact (Reps.c5 (show Kd.M k33 _ _ _ (⟨1, 10, (⟨#[69, 85, 82]⟩ : ByteArray), 1, 0⟩ : S33) [.int .i64 1, .int .i64 10, .string (⟨#[69, 85, 82]⟩ : ByteArray), .int .i64 1, .int .i64 0] from (k33_mkM _ _ _ (⟨1, 10, (⟨#[69, 85, 82]⟩ : ByteArray), 1, 0⟩ : S33) )) (Reps.none _ _))); intro v280 w11 ho12 hb hg_ hnew_; clear hg_ hnew_; (first | rw [← Ny279.out] at ho12 | (simp only [Int.reduceToNat] at ho12; rw [← Ny279.out] at ho12)); have n0_ := rB HO278 hb; have n1_ := rL ho12 HB; have n2_ := hB HB hb; clear HO278; clear HB; have HO278 := n0_; have HO281 := n1_; have HB := n2_; clear n0_ n1_ n2_; clear hb ho12; obtain ⟨Ao13, co13, eo13⟩ := Kd.R_slice HO281.out; subst eo13; obtain ⟨Ao14, co14, eo14⟩ := Kd.R_slice HO278.out; subst eo14) | ((with_reducible refine gate_dst (N := 1) rfl ?_); (try (refine gate_guard (by rfl) ?_; dsimp only)); refine boxA (N := 1) (cs := #[.string (⟨#[]⟩ : ByteArray), .int .i64 0, .slice none 0 0, .slice none 0 0]) (t := 25) ?_; intro gb282 hg w15 hbox hb; have n0_ := rB HO278 hb; have n1_ := rB HO281 hb; have n2_ := hB HB hb; have n3_ := Aside0.mk (hbox); have n4_ := gW hg HB; have n5_ := gW hg HB; clear HO278; clear HO281; clear HB; have HO278 := n0_; have HO281 := n1_; have HB := n2_; have BK282 := n3_; have GW282 := n4_; have GE282 := n5_; clear n0_ n1_ n2_ n3_ n4_ n5_; clear hb hbox hg; have hcz16_0 : w15.cell? ⟨gb282, 0, none⟩ = some (.string (⟨#[]⟩ : ByteArray)) := lc BK282 0; have hcz16_1 : w15.cell? ⟨gb282, 1, none⟩ = some (.int .i64 0) := lc BK282 1; have hcz16_2 : w15.cell? ⟨gb282, 2, none⟩ = some (.slice none 0 0) := lc BK282 2; have hcz16_3 : w15.cell? ⟨gb282, 3, none⟩ = some (.slice none 0 0) := lc BK282 3; have hfz16_0 := fz BK282 0; have hfz16_1 := fz BK282 1; have hfz16_2 := fz BK282 2; have hfz16_3 := fz BK282 3) | ((with_reducible refine gate_callee (f := 16) rfl ?_); refine goA (some 14) Try.func16 #[.slice none 0 0, .agg #[.string (⟨#[69, 85, 82]⟩ : ByteArray), .int .i64 0, .slice Ao14 y276.length co14, .slice Ao13 y279.length co13]] ?_; (refine (valuation_Values.calls k _ _ ([] : List (S61)) (⟨#[69, 85, 82]⟩ : ByteArray) 0 _ _ y276 _ _ y279 t283 t286 _ ?side1 ?side2 ?side3 ?side4 ?side5 ?side6 A1.out).mono ?_); (case side1 => exact Kd.C_nil _ _); (case side2 => exact Nat.le_refl _); (case side3 => refine (Kd.R_reads' (e := 35) (base := w.heap.size) (ok := fun k_ => True) (n := y276.length) (c := co14) ?_).2.2; exact (by (with_reducible repeat (first | apply Kd.R_alloc | apply Kd.R_drewN | apply Kd.R_drew)); exact (Kd.R_mono (Kd.R_far (p := ⟨gb282, 3, none⟩) (Kd.R_far (p := ⟨gb282, 2, none⟩) (Kd.R_far (p := ⟨gb282, 1, none⟩) (Kd.R_far (p := ⟨gb282, 0, none⟩) (Kd.R_types HO278.out BK282.out (by decide)) (fun _ hk => hk.2) (.string (⟨#[69, 85, 82]⟩ : ByteArray))) (fun _ hk => hk.2) (.int .i64 0)) (fun _ hk => hk.2) (.slice Ao14 y276.length co14)) (fun _ hk => hk.2) (.slice Ao13 y279.length co13)) (fun _ h_ => h_.1)))); (case side4 => exact (Kd.R_reads' HO278.out).2.1); (case side5 => refine (Kd.R_reads' (e := 33) (base := w.heap.size) (ok := fun k_ => True) (n := y279.length) (c := co13) ?_).2.2; exact (by (with_reducible repeat (first | apply Kd.R_alloc | apply Kd.R_drewN | apply Kd.R_drew)); exact (Kd.R_mono (Kd.R_far (p := ⟨gb282, 3, none⟩) (Kd.R_far (p := ⟨gb282, 2, none⟩) (Kd.R_far (p := ⟨gb282, 1, none⟩) (Kd.R_far (p := ⟨gb282, 0, none⟩) (Kd.R_types HO281.out BK282.out (by decide)) (fun _ hk => hk.2) (.string (⟨#[69, 85, 82]⟩ : ByteArray))) (fun _ hk => hk.2) (.int .i64 0)) (fun _ hk => hk.2) (.slice Ao14 y276.length co14)) (fun _ hk => hk.2) (.slice Ao13 y279.length co13)) (fun _ h_ => h_.1)))); (case side6 => exact (Kd.R_reads' HO281.out).2.1); rintro e w17 ⟨v284, rfl, ho0, hb⟩; refine ⟨_, rfl, ?_⟩; have n0_ := Aside0.mk (Kd.R_below (by (with_reducible repeat (first | apply Kd.R_alloc | apply Kd.R_drewN | apply Kd.R_drew)); exact (Kd.R_mono (Kd.R_far (p := ⟨gb282, 3, none⟩) (Kd.R_far (p := ⟨gb282, 2, none⟩) (Kd.R_far (p := ⟨gb282, 1, none⟩) (Kd.R_far (p := ⟨gb282, 0, none⟩) (Kd.R_types HO278.out BK282.out (by decide)) (fun _ hk => hk.2) (.string (⟨#[69, 85, 82]⟩ : ByteArray))) (fun _ hk => hk.2) (.int .i64 0)) (fun _ hk => hk.2) (.slice Ao14 y276.length co14)) (fun _ hk => hk.2) (.slice Ao13 y279.length co13)) (fun _ h_ => h_.1))) hb); have n1_ := Aside0.mk (Kd.R_below (by (with_reducible repeat (first | apply Kd.R_alloc | apply Kd.R_drewN | apply Kd.R_drew)); exact (Kd.R_mono (Kd.R_far (p := ⟨gb282, 3, none⟩) (Kd.R_far (p := ⟨gb282, 2, none⟩) (Kd.R_far (p := ⟨gb282, 1, none⟩) (Kd.R_far (p := ⟨gb282, 0, none⟩) (Kd.R_types HO281.out BK282.out (by decide)) (fun _ hk => hk.2) (.string (⟨#[69, 85, 82]⟩ : ByteArray))) (fun _ hk => hk.2) (.int .i64 0)) (fun _ hk => hk.2) (.slice Ao14 y276.length co14)) (fun _ hk => hk.2) (.slice Ao13 y279.length co13)) (fun _ h_ => h_.1))) hb); have n2_ := rL ho0 HB; have n3_ := Aside0.mk (blk_below (g := gb282) (o := .cells #[.string (⟨#[69, 85, 82]⟩ : ByteArray), .int .i64 0, .slice Ao14 y276.length co14, .slice Ao13 y279.length co13] 25 (0, 0)) (by (with_reducible repeat (first | refine blk_drewN ?_ _ | refine blk_drew ?_ | refine blk_alloc ?_ _)); refine blk_put (cs := #[.string (⟨#[69, 85, 82]⟩ : ByteArray), .int .i64 0, .slice Ao14 y276.length co14, .slice none 0 0]) ?_ 3 _ rfl; (with_reducible repeat (first | refine blk_drewN ?_ _ | refine blk_drew ?_ | refine blk_alloc ?_ _)); refine blk_put (cs := #[.string (⟨#[69, 85, 82]⟩ : ByteArray), .int .i64 0, .slice none 0 0, .slice none 0 0]) ?_ 2 _ rfl; (with_reducible repeat (first | refine blk_drewN ?_ _ | refine blk_drew ?_ | refine blk_alloc ?_ _)); refine blk_put (cs := #[.string (⟨#[69, 85, 82]⟩ : ByteArray), .int .i64 0, .slice none 0 0, .slice none 0 0]) ?_ 1 _ rfl; (with_reducible repeat (first | refine blk_drewN ?_ _ | refine blk_drew ?_ | refine blk_alloc ?_ _)); refine blk_put (cs := #[.string (⟨#[]⟩ : ByteArray), .int .i64 0, .slice none 0 0, .slice none 0 0]) ?_ 0 _ rfl; (with_reducible repeat (first | refine blk_drewN ?_ _ | refine blk_drew ?_ | refine blk_alloc ?_ _)); exact BK282.out) hb); have n4_ := hB HB hb; clear HO278; clear HO281; clear BK282; clear HB; have HO278 := n0_; have HO281 := n1_; have HO285 := n2_; have BK282 := n3_; have HB := n4_; clear n0_ n1_ n2_ n3_ n4_; have hcz18_0 : w17.cell? ⟨gb282, 0, none⟩ = some (.string (⟨#[69, 85, 82]⟩ : ByteArray)) := lc BK282 0; have hcz18_1 : w17.cell? ⟨gb282, 1, none⟩ = some (.int .i64 0) := lc BK282 1; have hcz18_2 : w17.cell? ⟨gb282, 2, none⟩ = some (.slice Ao14 y276.length co14) := lc BK282 2; have hcz18_3 : w17.cell? ⟨gb282, 3, none⟩ = some (.slice Ao13 y279.length co13) := lc BK282 3; have hfz18_0 := fz BK282 0; have hfz18_1 := fz BK282 1; have hfz18_2 := fz BK282 2; have hfz18_3 := fz BK282 3; clear hb ho0) | ((with_reducible refine gate_callee (f := 18) rfl ?_); refine goA (some 19) Try.func18 #[.slice none 0 0, .agg #[.string (⟨#[69, 85, 82]⟩ : ByteArray), .int .i64 0, .slice Ao14 y276.length co14, .slice Ao13 y279.length co13]] ?_; (refine (valuation_Total.calls k _ _ ([] : List (S61)) (⟨#[69, 85, 82]⟩ : ByteArray) 0 _ _ y276 _ _ y279 t287 t288 _ ?side1 ?side2 ?side3 ?side4 ?side5 ?side6 A2.out).mono ?_); (case side1 => exact Kd.C_nil _ _); (case side2 => exact Nat.le_refl _); (case side3 => repeat (first | exact (Kd.R_reads' HO278.out).2.2 | (with_reducible refine Kd.C_alloc ?_ _) | (with_reducible refine Kd.C_drewN ?_ _) | (with_reducible refine Kd.C_drew ?_))); (case side4 => exact (Kd.R_reads' HO278.out).2.1); (case side5 => repeat (first | exact (Kd.R_reads' HO281.out).2.2 | (with_reducible refine Kd.C_alloc ?_ _) | (with_reducible refine Kd.C_drewN ?_ _) | (with_reducible refine Kd.C_drew ?_))); (case side6 => exact (Kd.R_reads' HO281.out).2.1); rintro e w19 ⟨rfl, hb⟩; refine ⟨_, rfl, ?_⟩; have n0_ := rB HO278 hb; have n1_ := rB HO281 hb; have n2_ := rB HO285 hb; have n3_ := bB BK282 hb; have n4_ := hB HB hb; clear HO278; clear HO281; clear HO285; clear BK282; clear HB; have HO278 := n0_; have HO281 := n1_; have HO285 := n2_; have BK282 := n3_; have HB := n4_; clear n0_ n1_ n2_ n3_ n4_; clear hb) | ((with_reducible refine gate_dst (N := 30) rfl ?_); (try (refine gate_guard (by rfl) ?_; dsimp only)); refine Kd.R_lit (Kd.int .i64) _ 3 ?hg (N := 30) ?hd (xs := ([103, 207] : List Int)) (inner := [.int .i64 103, .int .i64 207]) (ok := fun _ => True) (okp := fun _ => True) ?hr ?hp (fun _ hk => hk) trivial (Below.refl _ _) (Nat.le_refl _) (by simp) ?_; (case hd => rfl); (case hg => rfl); (case hr => first | (go_simp; done) | (go_simp; rfl)); (case hp => exact (Reps.one (show Kd.M (Kd.int .i64) _ _ _ 103 [.int .i64 103] from rfl) (Reps.one (show Kd.M (Kd.int .i64) _ _ _ 207 [.int .i64 207] from rfl) (Reps.none _ _)))); intro v290 w20 ho21 hb hg_ hnew_; clear hg_ hnew_; (first | rw [← Ny289.out] at ho21 | (simp only [Int.reduceToNat] at ho21; rw [← Ny289.out] at ho21)); have n0_ := rB HO278 hb; have n1_ := rB HO281 hb; have n2_ := Aside0.mk (Kd.R_elder' (aR HO285) (Kd.R_base ho21) hb); have n3_ := Aside0.mk (Kd.R_lower (Kd.R_new' ho21 (Kd.R_lt (aR HO285))) (below_size (aH HB))); have n4_ := bB BK282 hb; have n5_ := hB HB hb; clear HO278; clear HO281; clear HO285; clear BK282; clear HB; have HO278 := n0_; have HO281 := n1_; have HO285 := n2_; have HO291 := n3_; have BK282 := n4_; have HB := n5_; clear n0_ n1_ n2_ n3_ n4_ n5_; clear hb ho21; obtain ⟨Ao22, co22, eo22⟩ := Kd.R_slice HO285.out; subst eo22; obtain ⟨Ao23, co23, eo23⟩ := Kd.R_slice HO291.out; subst eo23) | (go_at_call 20; (with_reducible refine (customsref02_Same.calls k _ _ t283 _ _ y289 true _ ?side1 ?side2 ?side3 ?side4 A5.out).mono ?_); (case side1 => repeat (first | exact (Kd.R_reads' HO285.out).2.2 | (with_reducible refine Kd.C_alloc ?_ _) | (with_reducible refine Kd.C_drewN ?_ _) | (with_reducible refine Kd.C_drew ?_))); (case side2 => exact (Kd.R_reads' HO285.out).2.1); (case side3 => repeat (first | exact (Kd.R_reads' HO291.out).2.2 | (with_reducible refine Kd.C_alloc ?_ _) | (with_reducible refine Kd.C_drewN ?_ _) | (with_reducible refine Kd.C_drew ?_))); (case side4 => exact (Kd.R_reads' HO291.out).2.1); rintro e w' ⟨rfl, ⟨nd, rfl⟩⟩) | (go_at_call 11; (refine (valuation_Validate.calls k (⟨#[]⟩ : ByteArray) 0 _ _ ([] : List (S35)) _ _ ([] : List (S33)) t293 _ ?side1 ?side2 ?side3 ?side4 A8.out).mono ?_); (case side1 => exact Kd.C_nil _ _); (case side2 => exact Nat.le_refl _); (case side3 => exact Kd.C_nil _ _); (case side4 => exact Nat.le_refl _); rintro e w24 ⟨rfl, hb⟩; have n0_ := rB HO278 hb; have n1_ := rB HO281 hb; have n2_ := rB HO285 hb; have n3_ := rB HO291 hb; have n4_ := bB BK282 hb; have n5_ := hB HB hb; clear HO278; clear HO281; clear HO285; clear HO291; clear BK282; clear HB; have HO278 := n0_; have HO281 := n1_; have HO285 := n2_; have HO291 := n3_; have BK282 := n4_; have HB := n5_; clear n0_ n1_ n2_ n3_ n4_ n5_; clear hb))
      go_ret
      exact ⟨by first | rfl | (simp [errW_none, errW_some] <;> rfl) | (simp [*, errW_none, errW_some] <;> rfl) | (simp (disch := first | assumption | omega) only [Int.tdiv_eq_ediv_of_nonneg, Int.tmod_eq_emod_of_nonneg]; rfl), aH HB⟩
     ·rw [if_neg c7] at H
      have c7b0 : (t287 == 310) = false := beq_eq_false_iff_ne.mpr c7
      have c7b1 : (t287 != 310) = true := bne_iff_ne.mpr c7
      obtain rfl := Option.some.inj H
      exact absurd HT.out (by decide)
    ·replace c6 := Bool.eq_false_iff.mpr c6
     subst c6
     have H1 : (some false) = some r := by rw [if_neg (show ¬ (false = true) by decide)] at H; exact H
     clear H
     have H := H1
     clear H1
     obtain rfl := Option.some.inj H
     exact absurd HT.out (by decide)
   ·rw [if_neg c4] at H
    have c4b0 : (t288 == 0) = false := beq_eq_false_iff_ne.mpr c4
    have c4b1 : (t288 != 0) = true := bne_iff_ne.mpr c4
    obtain rfl := Option.some.inj H
    exact absurd HT.out (by decide)
  ·rw [if_neg c3] at H
   have c3b0 : (t286 == 0) = false := beq_eq_false_iff_ne.mpr c3
   have c3b1 : (t286 != 0) = true := bne_iff_ne.mpr c3
   obtain rfl := Option.some.inj H
   exact absurd HT.out (by decide)

end Go.Proofs.Yteoieencagcgdaa.PX
end
section
namespace Go.Proofs.Yteoieencagcgdaa.PX
open Go.RowKit Go.Proofs.YteoieencagcgdaaW.PrintWords Go.Proofs.YteoieencagcgdaaW.PrintLast Go.Proofs.YteoieencagcgdaaW.PrintMore
attribute [local go_sem] max2_int min2_int max_two min_two max_three min_three max_four min_four
set_option linter.unusedVariables false
set_option linter.unusedSimpArgs false

def customsmade_Within.f (a0 : Int) (a1 : Int) : Option (Int) := if a1 = 0 then (none) else (some (Int.tmod (wrap64 ((Int.tmod a0 a1) + a1)) a1))
set_option maxHeartbeats 8000000 in
set_option maxRecDepth 100000 in
theorem customsmade_Within.calls (a0 : Int) (a1 : Int) (r : Int) (w : World) (h : customsmade_Within.f a0 a1 = some r) :
   Calls Try.prog 13 #[.int .i64 a0, .int .i64 a1] w fun e w' => e = .returned (.int .i64 r) ∧ Drawn0 w w' := by
  have H : (if a1 = 0 then (none) else (some (Int.tmod (wrap64 ((Int.tmod a0 a1) + a1)) a1))) = some r := h
  clear h
  by_cases c3 : a1 = 0
  ·rw [if_pos c3] at H
   exact absurd H (by simp)
  ·rw [if_neg c3] at H
   have c3b0 : (a1 == 0) = false := beq_eq_false_iff_ne.mpr c3
   have c3b1 : (a1 != 0) = true := bne_iff_ne.mpr c3
   obtain rfl := Option.some.inj H
   simp only [Option.some.injEq, Prod.mk.injEq] at H
   obtain ⟨rfl⟩ := H
   go_enter Try.func13, Try.ntmps13
   go_wp2
   go_ret
   exact ⟨by first | rfl | (simp; done) | (simp [*]; done), by repeat (first | exact Drawn0.refl _ | apply Drawn0.step)⟩

end Go.Proofs.Yteoieencagcgdaa.PX
end
section
namespace Go.Proofs.Yteoieencagcgdaa.PX
open Go.RowKit Go.Proofs.YteoieencagcgdaaW.PrintWords Go.Proofs.YteoieencagcgdaaW.PrintLast Go.Proofs.YteoieencagcgdaaW.PrintMore
attribute [local go_sem] max2_int min2_int max_two min_two max_three min_three max_four min_four
set_option linter.unusedVariables false
set_option linter.unusedSimpArgs false

def customsmade_Currency.f (a0 : Int) : Option (ByteArray) := (some (([(⟨#[67, 72, 70]⟩ : ByteArray), (⟨#[71, 66, 80]⟩ : ByteArray), (⟨#[85, 83, 68]⟩ : ByteArray), (⟨#[69, 85, 82]⟩ : ByteArray), (⟨#[88, 88, 88]⟩ : ByteArray)] : List ByteArray) : List ByteArray)).bind fun y113 => ((customsmade_Within.f a0 5).bind fun t116 => (if 0 ≤ t116 then (if t116 < (y113.length : Int) then (some (rdOf ByteArray.empty y113 t116)) else (none)) else (none)))
set_option maxHeartbeats 8000000 in
set_option maxRecDepth 100000 in
theorem customsmade_Currency.calls (a0 : Int) (r : ByteArray) (w : World) (h : customsmade_Currency.f a0 = some r) :
   Calls Try.prog 22 #[.int .i64 a0] w fun e w' => e = .returned (.string r) ∧ Below w.heap.size w w' := by
  have HB := Aside0.mk (Below.refl w.heap.size w)
  have H : ((some (([(⟨#[67, 72, 70]⟩ : ByteArray), (⟨#[71, 66, 80]⟩ : ByteArray), (⟨#[85, 83, 68]⟩ : ByteArray), (⟨#[69, 85, 82]⟩ : ByteArray), (⟨#[88, 88, 88]⟩ : ByteArray)] : List ByteArray) : List ByteArray)).bind fun y113 => ((customsmade_Within.f a0 5).bind fun t116 => (if 0 ≤ t116 then (if t116 < (y113.length : Int) then (some (rdOf ByteArray.empty y113 t116)) else (none)) else (none)))) = some r := h
  clear h
  obtain ⟨y113, hy113⟩ : ∃ y_ : List ByteArray, y_ = (([(⟨#[67, 72, 70]⟩ : ByteArray), (⟨#[71, 66, 80]⟩ : ByteArray), (⟨#[85, 83, 68]⟩ : ByteArray), (⟨#[69, 85, 82]⟩ : ByteArray), (⟨#[88, 88, 88]⟩ : ByteArray)] : List ByteArray)) := ⟨_, rfl⟩
  replace H : ((customsmade_Within.f a0 5).bind fun t116 => (if 0 ≤ t116 then (if t116 < (y113.length : Int) then (some (rdOf ByteArray.empty y113 t116)) else (none)) else (none))) = some r := by first | (rw [hy113]; with_reducible exact H) | (have H2_ := (Option.bind_some _ _).symm.trans H; rw [hy113]; with_reducible exact H2_) | (have H2_ := (Option.bind_some _ _).symm.trans H; with_reducible exact H2_) | with_reducible exact H | (rw [hy113]; exact H) | exact H
  have Ny113 := Aside0.mk hy113
  clear hy113
  replace H := Option.bind_eq_some_iff.mp H
  obtain ⟨t116, A20, H⟩ := H
  replace H : (if 0 ≤ t116 then (if t116 < (y113.length : Int) then (some (rdOf ByteArray.empty y113 t116)) else (none)) else (none)) = some r := H
  have A2 := Aside0.mk A20
  clear A20
  by_cases c3 : 0 ≤ t116
  ·rw [if_pos c3] at H
   have c3b0 : decide (0 ≤ t116) = true := decide_eq_true c3
   clear c3
   by_cases c4 : t116 < (y113.length : Int)
   ·rw [if_pos c4] at H
    have c4b0 : decide (t116 < (y113.length : Int)) = true := decide_eq_true c4
    clear c4
    obtain rfl := Option.some.inj H
    simp only [Option.some.injEq, Prod.mk.injEq] at H
    obtain ⟨rfl⟩ := H
    go_enter Try.func22, Try.ntmps22
    go_wp2_with (first | ((with_reducible refine gate_dst (N := 3) rfl ?_); refine Kd.R_lit Kd.string _ 9 ?hg (N := 3) ?hd (xs := ([(⟨#[67, 72, 70]⟩ : ByteArray), (⟨#[71, 66, 80]⟩ : ByteArray), (⟨#[85, 83, 68]⟩ : ByteArray), (⟨#[69, 85, 82]⟩ : ByteArray), (⟨#[88, 88, 88]⟩ : ByteArray)] : List ByteArray)) (inner := [.string (⟨#[67, 72, 70]⟩ : ByteArray), .string (⟨#[71, 66, 80]⟩ : ByteArray), .string (⟨#[85, 83, 68]⟩ : ByteArray), .string (⟨#[69, 85, 82]⟩ : ByteArray), .string (⟨#[88, 88, 88]⟩ : ByteArray)]) (ok := fun _ => True) (okp := fun _ => True) ?hr ?hp (fun _ hk => hk) trivial (Below.refl _ _) (Nat.le_refl _) (by simp) ?_; (case hd => rfl); (case hg => rfl); (case hr => first | (go_simp; done) | (go_simp; rfl)); (case hp => exact (Reps.one (show Kd.M Kd.string _ _ _ (⟨#[67, 72, 70]⟩ : ByteArray) [.string (⟨#[67, 72, 70]⟩ : ByteArray)] from rfl) (Reps.one (show Kd.M Kd.string _ _ _ (⟨#[71, 66, 80]⟩ : ByteArray) [.string (⟨#[71, 66, 80]⟩ : ByteArray)] from rfl) (Reps.one (show Kd.M Kd.string _ _ _ (⟨#[85, 83, 68]⟩ : ByteArray) [.string (⟨#[85, 83, 68]⟩ : ByteArray)] from rfl) (Reps.one (show Kd.M Kd.string _ _ _ (⟨#[69, 85, 82]⟩ : ByteArray) [.string (⟨#[69, 85, 82]⟩ : ByteArray)] from rfl) (Reps.one (show Kd.M Kd.string _ _ _ (⟨#[88, 88, 88]⟩ : ByteArray) [.string (⟨#[88, 88, 88]⟩ : ByteArray)] from rfl) (Reps.none _ _))))))); intro v114 w5 ho6 hb hg_ hnew_; clear hg_ hnew_; (first | rw [← Ny113.out] at ho6 | (simp only [Int.reduceToNat] at ho6; rw [← Ny113.out] at ho6)); have n0_ := rL ho6 HB; have n1_ := hB HB hb; clear HB; have HO115 := n0_; have HB := n1_; clear n0_ n1_; clear hb ho6) | ((with_reducible refine gate_callee (f := 13) rfl ?_); refine goA (some 5) Try.func13 #[.int .i64 a0, .int .i64 5] ?_; (with_reducible refine (customsmade_Within.calls a0 5 t116 _ A2.out).mono ?_); rintro e w' ⟨rfl, ⟨nd, rfl⟩⟩; refine ⟨_, rfl, ?_⟩; obtain ⟨Ao7, co7, eo7⟩ := Kd.R_slice HO115.out; subst eo7; have p117 : 0 ≤ (t116 : Int) := of_decide_eq_true (by first | (with_reducible assumption) | assumption); have q117 : t116 < (y113.length : Int) := of_decide_eq_true (by first | (with_reducible assumption) | assumption); obtain ⟨ad117, e117, hx117_0⟩ := Kd.at_string (Kd.R_reads' HO115.out).2.2 t116 p117 q117; cases e117; replace p117 := eq_true p117; replace q117 := eq_true q117))
    go_ret
    exact ⟨by first | rfl | (simp [errW_none, errW_some] <;> rfl) | (simp [*, errW_none, errW_some] <;> rfl) | (simp (disch := first | assumption | omega) only [Int.tdiv_eq_ediv_of_nonneg, Int.tmod_eq_emod_of_nonneg]; rfl), aH HB⟩
   ·rw [if_neg c4] at H
    exact absurd H (by simp)
  ·rw [if_neg c3] at H
   exact absurd H (by simp)

end Go.Proofs.Yteoieencagcgdaa.PX
end
section
namespace Go.Proofs.Yteoieencagcgdaa.PX
open Go.RowKit Go.Proofs.YteoieencagcgdaaW.PrintWords Go.Proofs.YteoieencagcgdaaW.PrintLast Go.Proofs.YteoieencagcgdaaW.PrintMore
attribute [local go_sem] max2_int min2_int max_two min_two max_three min_three max_four min_four
set_option linter.unusedVariables false
set_option linter.unusedSimpArgs false

def IsS53 (w0 W : World) (g : Nat) (f0 : List Int) (f1 : Int) : Prop := ∃ A0 c0, W.heap[g]? = some (.cells #[.slice A0 f0.length c0, .int .i64 f1] 53 (0, 0)) ∧ w0.heap.size ≤ g ∧ Kd.C (Kd.int .i64) w0 A0 f0.length f0
theorem IsS53.grown {w0 W : World} {g : Nat} {f0 : List Int} {f1 : Int} {W1 : World} {row : Option Nat} (h : IsS53 w0 W g f0 f1) (hw : W.grownBy W1 row) (hne : some g ≠ row) : IsS53 w0 W1 g f0 f1 := by
  obtain ⟨A0, c0, hb, hg, hr0⟩ := h
  exact ⟨A0, c0, blk_grown hb hw hne, hg, hr0⟩
theorem IsS53.kept {w0 W : World} {g : Nat} {f0 : List Int} {f1 : Int} {W1 : World} {S : Nat → Prop} (h : IsS53 w0 W g f0 f1) (hk : Kept W W1 S) (hne : ¬ S g) : IsS53 w0 W1 g f0 f1 := by
  obtain ⟨A0, c0, hb, hg, hr0⟩ := h
  exact ⟨A0, c0, blk_kept hb hk hne, hg, hr0⟩
theorem IsS53.below {w0 W : World} {g : Nat} {f0 : List Int} {f1 : Int} {W1 : World} (h : IsS53 w0 W g f0 f1) (hw : Below W.heap.size W W1) : IsS53 w0 W1 g f0 f1 := h.grown (grown_of_below hw none) (by simp)
theorem IsS53.alloc {w0 W : World} {g : Nat} {f0 : List Int} {f1 : Int} (h : IsS53 w0 W g f0 f1) (o : Obj) : IsS53 w0 (W.alloc o) g f0 f1 := h.below (below_alloc (Below.refl _ _) o)
theorem IsS53.drewN {w0 W : World} {g : Nat} {f0 : List Int} {f1 : Int} (h : IsS53 w0 W g f0 f1) (m : Nat) : IsS53 w0 (W.drewN m) g f0 f1 := h
theorem IsS53.drew {w0 W : World} {g : Nat} {f0 : List Int} {f1 : Int} (h : IsS53 w0 W g f0 f1) : IsS53 w0 W.drew g f0 f1 := h
theorem IsS53.at_ {w0 W : World} {g : Nat} {f0 : List Int} {f1 : Int} {w' : World} {m : Nat} (hq : W.drewN m = w') (h : IsS53 w0 W g f0 f1) : IsS53 w0 w' g f0 f1 := by subst hq; exact IsS53.drewN h m
theorem IsS53.apart {w0 W : World} {g : Nat} {f0 : List Int} {f1 : Int} {α : Type} {d : Kd α} {e : Nat} {base : Nat} {ok : Nat → Prop} {v : Value} {xs : List α} (h : IsS53 w0 W g f0 f1) (ho : d.R e W base ok v xs) (ht : ∀ q, q ∈ e :: d.E → q ≠ 53) : d.R e W base (fun k => ok k ∧ k ≠ g) v xs := by
  obtain ⟨A0, c0, hb, hg, hr0⟩ := h
  exact Kd.R_types ho hb ht
theorem IsS53.own_ne {w0 W : World} {g : Nat} {f0 : List Int} {f1 : Int} {α : Type} {d : Kd α} {e : Nat} {base : Nat} {ok : Nat → Prop} {v : Value} {xs : List α} (h : IsS53 w0 W g f0 f1) (ho : d.R e W base ok v xs) (ht : e ≠ 53) : some g ≠ v.ownBlock := by
  obtain ⟨A0, c0, hb, hg, hr0⟩ := h
  exact Kd.R_ne ho hb ht
theorem IsS53.lt {w0 W : World} {g : Nat} {f0 : List Int} {f1 : Int} (h : IsS53 w0 W g f0 f1) : g < W.heap.size := by
  obtain ⟨A0, c0, hb, hg, hr0⟩ := h
  exact blk_lt hb
theorem IsS53.ge {w0 W : World} {g : Nat} {f0 : List Int} {f1 : Int} (h : IsS53 w0 W g f0 f1) : w0.heap.size ≤ g := by
  obtain ⟨A0, c0, hb, hg, hr0⟩ := h
  exact hg
theorem IsS53.ne_blk {w0 W : World} {g : Nat} {f0 : List Int} {f1 : Int} {a : Nat} {cs : Array Value} {t : TypeId} {fr : Nat × Nat} (h : IsS53 w0 W g f0 f1) (hb2 : W.heap[a]? = some (.cells cs t fr)) (ht : t ≠ 53) : g ≠ a := by
  obtain ⟨A0, c0, hb, hg, hr0⟩ := h
  rintro rfl
  rw [hb] at hb2
  injection hb2 with hb2
  injection hb2 with _ ht2
  exact ht ht2.symm
theorem IsS53.far {w0 W : World} {g : Nat} {f0 : List Int} {f1 : Int} {p : Addr} (h : IsS53 w0 W g f0 f1) (hne : g ≠ p.block) (u : Value) : IsS53 w0 (W.setCell p u) g f0 f1 := by
  obtain ⟨A0, c0, hb, hg, hr0⟩ := h
  exact ⟨A0, c0, blk_far hb hne u, hg, hr0⟩
theorem cellS53_0 {W : World} {g : Nat} {A0 : Option Addr} {c0 : Nat} {f0 : List Int} {f1 : Int} (h : W.heap[g]? = some (.cells #[.slice A0 f0.length c0, .int .i64 f1] 53 (0, 0))) : W.cell? ⟨g, 0, none⟩ = some (.slice A0 f0.length c0) := (blk_cell h 0).trans rfl
theorem cellS53_1 {W : World} {g : Nat} {A0 : Option Addr} {c0 : Nat} {f0 : List Int} {f1 : Int} (h : W.heap[g]? = some (.cells #[.slice A0 f0.length c0, .int .i64 f1] 53 (0, 0))) : W.cell? ⟨g, 1, none⟩ = some (.int .i64 f1) := (blk_cell h 1).trans rfl
theorem IsS53.set_1 {w0 W : World} {g : Nat} {f0 : List Int} {f1 : Int} (h : IsS53 w0 W g f0 f1) (x : Int) : IsS53 w0 (W.setCell ⟨g, 1, none⟩ (.int .i64 x)) g f0 x := by
  obtain ⟨A0, c0, hb, hg, hr0⟩ := h
  exact ⟨A0, c0, by simpa using blk_set hb 1 (.int .i64 x), hg, hr0⟩
theorem IsS53.new (w0 W : World) (A0 : Option Addr) (c0 : Nat) (f0 : List Int) (f1 : Int) (hB : Below w0.heap.size w0 W) (hr0 : Kd.C (Kd.int .i64) w0 A0 f0.length f0) : IsS53 w0 (W.alloc (.cells #[.slice A0 f0.length c0, .int .i64 f1] 53)) W.heap.size f0 f1 := ⟨A0, c0, by simpa using heap_alloc_new W _, hB.size, hr0⟩

def customsmade_Source_Next.f (s0_0 : List Int) (s0_1 : Int) (a1 : Int) : Option (Int × Int) := if s0_1 ≥ (s0_0.length : Int) then (some (0, s0_1)) else (if 0 ≤ (wrap64 ((wrap64 (s0_1 + 1)) - 1)) then (if (wrap64 ((wrap64 (s0_1 + 1)) - 1)) < (s0_0.length : Int) then ((customsmade_Within.f (rd s0_0 (wrap64 ((wrap64 (s0_1 + 1)) - 1))) a1).bind fun t119 => (some (t119, wrap64 (s0_1 + 1)))) else (none)) else (none))
set_option maxHeartbeats 8000000 in
set_option maxRecDepth 100000 in
theorem customsmade_Source_Next.calls (g : Nat) (s0_0 : List Int) (s0_1 : Int) (a1 : Int) (r1 : Int) (r2 : Int) (w0 w : World) (hI : IsS53 w0 w g s0_0 s0_1) (hB : Below w0.heap.size w0 w) (h : customsmade_Source_Next.f s0_0 s0_1 a1 = some (r1, r2)) :
   Calls Try.prog 24 #[.pointer (some ⟨g, 0, none⟩), .int .i64 a1] w fun e w' => e = .returned (.int .i64 r1) ∧ IsS53 w0 w' g s0_0 r2 ∧ Below w0.heap.size w0 w' ∧ KeepBut w w' g none := by
  have HI0 := Aside0.mk hI
  have HK := Aside0.mk (KeepBut.refl w g none)
  have HL := Aside0.mk hB.size
  clear hI
  have HW0 := Aside0.mk hB.size
  have HB := Aside0.mk hB
  clear hB
  have H : (if s0_1 ≥ (s0_0.length : Int) then (some (0, s0_1)) else (if 0 ≤ (wrap64 ((wrap64 (s0_1 + 1)) - 1)) then (if (wrap64 ((wrap64 (s0_1 + 1)) - 1)) < (s0_0.length : Int) then ((customsmade_Within.f (rd s0_0 (wrap64 ((wrap64 (s0_1 + 1)) - 1))) a1).bind fun t119 => (some (t119, wrap64 (s0_1 + 1)))) else (none)) else (none))) = some (r1, r2) := h
  clear h
  by_cases c3 : s0_1 ≥ (s0_0.length : Int)
  ·rw [if_pos c3] at H
   have c3b0 : decide ((s0_0.length : Int) ≤ s0_1) = true := decide_eq_true c3
   clear c3
   simp only [Option.some.injEq, Prod.mk.injEq] at H
   obtain ⟨rfl, rfl⟩ := H
   obtain ⟨ASz4_0, cSz4_0, HGz4, hgz4, HSz4_0⟩ := HI0.out
   have hcz4_0 := cellS53_0 HGz4
   have hcz4_1 := cellS53_1 HGz4
   have hfz4_1 := blk_frozen HGz4 1
   clear HGz4 hgz4
   go_enter Try.func24, Try.ntmps24
   go_wp2
   repeat (go_quiet (fail); try go_wp2)
   go_ret
   exact ⟨by first | rfl | (simp [errW_none, errW_some] <;> rfl) | (simp [*, errW_none, errW_some] <;> rfl) | (simp (disch := first | assumption | omega) only [Int.tdiv_eq_ediv_of_nonneg, Int.tmod_eq_emod_of_nonneg]; rfl), by repeat (first | (with_reducible first | exact HI0.out | apply IsS53.alloc | apply IsS53.drewN | apply IsS53.drew | apply IsS53.set_1) | exact HI0.out), by repeat (first | (with_reducible first | exact HB.out | apply below_alloc | apply pw_below_drewN | apply below_drew1 | refine below_set ?_ (IsS53.ge HI0.out)) | exact HB.out), by repeat (first | (with_reducible first | exact HK.out | apply KeepBut.set_ | apply keep_drewN | apply keep_drew | apply keep_alloc) | exact HK.out)⟩
  ·rw [if_neg c3] at H
   have c3b0 : decide ((s0_0.length : Int) ≤ s0_1) = false := decide_eq_false c3
   clear c3
   obtain ⟨ji5, hji5⟩ : ∃ j_ : Int, (wrap64 ((wrap64 (s0_1 + 1)) - 1)) = j_ := ⟨_, rfl⟩
   replace H : (if 0 ≤ (ji5) then (if (ji5) < (s0_0.length : Int) then ((customsmade_Within.f (rd s0_0 (ji5)) a1).bind fun t119 => (some (t119, wrap64 (s0_1 + 1)))) else (none)) else (none)) = some (r1, r2) := by first | (rw [hji5] at H; exact H) | (simp only [hji5] at H ⊢; exact H)
   have hji5w : (IntKind.i64.wrap ((wrap64 (s0_1 + 1)) - 1)) = ji5 := (i64_w _).trans hji5
   by_cases c6 : 0 ≤ (ji5)
   ·rw [if_pos c6] at H
    have c6b0 : decide (0 ≤ (ji5)) = true := decide_eq_true c6
    clear c6
    by_cases c7 : (ji5) < (s0_0.length : Int)
    ·rw [if_pos c7] at H
     have c7b0 : decide ((ji5) < (s0_0.length : Int)) = true := decide_eq_true c7
     clear c7
     replace H := Option.bind_eq_some_iff.mp H
     obtain ⟨t119, A80, H⟩ := H
     replace H : (some (t119, wrap64 (s0_1 + 1))) = some (r1, r2) := H
     have A8 := Aside0.mk A80
     clear A80
     simp only [Option.some.injEq, Prod.mk.injEq] at H
     obtain ⟨rfl, rfl⟩ := H
     obtain ⟨ASz9_0, cSz9_0, HGz9, hgz9, HSz9_0⟩ := HI0.out
     have hcz9_0 := cellS53_0 HGz9
     have hcz9_1 := cellS53_1 HGz9
     have hfz9_1 := blk_frozen HGz9 1
     clear HGz9 hgz9
     have p118 : 0 ≤ ((ji5) : Int) := of_decide_eq_true (by first | (with_reducible assumption) | assumption)
     have q118 : (ji5) < (s0_0.length : Int) := of_decide_eq_true (by first | (with_reducible assumption) | assumption)
     obtain ⟨ad118, e118, hx118_0⟩ := Kd.at_int HSz9_0 (ji5) p118 q118
     cases e118
     have hn118_0 : ad118.block ≠ g := Nat.ne_of_lt (Nat.lt_of_lt_of_le (by have := World.block_lt_of_cell? _ _ hx118_0; first | rwa [add_block] at this | exact this) (IsS53.ge HI0.out))
     replace hx118_0 := pw_cell_below HB.out hx118_0
     replace hx118_0 := (cell_far (p := ⟨g, 1, none⟩) (by first | (rw [add_block]; exact hn118_0) | (show (Addr.add _ _).block ≠ _; rw [add_block]; exact hn118_0) | exact hn118_0) (.int .i64 (wrap64 (s0_1 + 1)))).trans hx118_0
     (try have hy118_0 := fun (n_ : Nat) => (show (((w.drewN n_).setCell ⟨g, 1, none⟩ (.int .i64 (wrap64 (s0_1 + 1))))).cell? _ = some _ from hx118_0))
     clear hn118_0
     replace p118 := eq_true p118
     replace q118 := eq_true q118
     go_enter Try.func24, Try.ntmps24
     go_wp2_with (first | (go_at_call 13; (with_reducible refine (customsmade_Within.calls (rd s0_0 (ji5)) a1 t119 _ A8.out).mono ?_); rintro e w' ⟨rfl, ⟨nd, rfl⟩⟩; (try first | exact ⟨rfl, _, World.drewN_drewN _ _ _⟩ | exact ⟨rfl, _, Eq.trans (World.drewN_drewN _ _ _) (congrArg (World.drewN _) (Nat.add_assoc _ _ _))⟩)))
     repeat (go_quiet (first | (go_at_call 13; (with_reducible refine (customsmade_Within.calls (rd s0_0 (ji5)) a1 t119 _ A8.out).mono ?_); rintro e w' ⟨rfl, ⟨nd, rfl⟩⟩; (try first | exact ⟨rfl, _, World.drewN_drewN _ _ _⟩ | exact ⟨rfl, _, Eq.trans (World.drewN_drewN _ _ _) (congrArg (World.drewN _) (Nat.add_assoc _ _ _))⟩))); try go_wp2_with (first | (go_at_call 13; (with_reducible refine (customsmade_Within.calls (rd s0_0 (ji5)) a1 t119 _ A8.out).mono ?_); rintro e w' ⟨rfl, ⟨nd, rfl⟩⟩; (try first | exact ⟨rfl, _, World.drewN_drewN _ _ _⟩ | exact ⟨rfl, _, Eq.trans (World.drewN_drewN _ _ _) (congrArg (World.drewN _) (Nat.add_assoc _ _ _))⟩))))
     go_ret
     exact ⟨by first | rfl | (simp [errW_none, errW_some] <;> rfl) | (simp only [← hji5]; first | rfl | (simp [errW_none, errW_some] <;> rfl)) | (simp [*, errW_none, errW_some] <;> rfl) | (simp (disch := first | assumption | omega) only [Int.tdiv_eq_ediv_of_nonneg, Int.tmod_eq_emod_of_nonneg]; rfl), by repeat (first | (with_reducible first | exact HI0.out | apply IsS53.alloc | apply IsS53.drewN | apply IsS53.drew | apply IsS53.set_1) | exact HI0.out), by repeat (first | (with_reducible first | exact HB.out | apply below_alloc | apply pw_below_drewN | apply below_drew1 | refine below_set ?_ (IsS53.ge HI0.out)) | exact HB.out), by repeat (first | (with_reducible first | exact HK.out | apply KeepBut.set_ | apply keep_drewN | apply keep_drew | apply keep_alloc) | exact HK.out)⟩
    ·rw [if_neg c7] at H
     exact absurd H (by simp)
   ·rw [if_neg c6] at H
    exact absurd H (by simp)

end Go.Proofs.Yteoieencagcgdaa.PX
end
section
namespace Go.Proofs.Yteoieencagcgdaa.PX
open Go.RowKit Go.Proofs.YteoieencagcgdaaW.PrintWords Go.Proofs.YteoieencagcgdaaW.PrintLast Go.Proofs.YteoieencagcgdaaW.PrintMore
attribute [local go_sem] max2_int min2_int max_two min_two max_three min_three max_four min_four
set_option linter.unusedVariables false
set_option linter.unusedSimpArgs false

theorem R_keep_base {α : Type} {d : Kd α} {e : Nat} {w w1 : World} {base : Nat} {ok : Nat → Prop} {v : Value} {xs : List α} {g : Nat} (h : d.R e w base ok v xs) (hk : KeepBut w w1 g none) (hg : g < base) : d.R e w1 base ok v xs :=
  Kd.R_mono (Kd.R_keep (Kd.R_bound h) hk (fun k hk => by obtain ⟨_, hb, _⟩ := hk; omega)) (fun _ hk => hk.1)
theorem cell_alloc {w : World} {o : Obj} {a : Addr} {v : Value} (h : (w.alloc o).cell? a = some v) (hl : a.block < w.heap.size) : w.cell? a = some v :=
  (((Below.refl w.heap.size w).alloc (Nat.le_refl _) o).cell hl).symm.trans h
theorem keep_row {w W W1 : World} {g : Nat} {row : Option Nat} (h : KeepBut w W g none) (hg : W.grownBy W1 row) (hr : ∀ k, row = some k → w.heap.size ≤ k) : KeepBut w W1 g none := by
  refine ⟨Nat.le_trans h.1 hg.size, fun i hi hne _ => ?_⟩
  rw [hg.block i (Nat.lt_of_lt_of_le hi h.1) (fun e => by have := hr i e.symm; omega)]
  exact h.2 i hi hne (by simp)
def srcNext (l : List Int) (m : Int) : Int × List Int := match l with
  | [] => (0, [])
  | x :: t => (x % m, t)
def Rng64 (x : Int) : Prop := -9223372036854775808 ≤ x ∧ x < 9223372036854775808
def rng64 (x : Int) : Bool := decide (-9223372036854775808 ≤ x) && decide (x < 9223372036854775808)
theorem rng_all {xs : List Int} (h : xs.all rng64 = true) : ∀ x ∈ xs, Rng64 x := by
  intro x hx
  have := List.all_eq_true.mp h x hx
  simpa [rng64, Rng64] using this
theorem all_rng {xs : List Int} (h : ∀ x ∈ xs, (Lit.int .i64 x).wf = true) : xs.all rng64 = true := by
  refine List.all_eq_true.mpr fun x hx => ?_
  have := h x hx
  simp [Lit.wf, IntKind.min, IntKind.max, IntKind.bits, IntKind.signed] at this
  simp [rng64]; omega
theorem within_is (x m : Int) (hx : Rng64 x) (h0 : 0 < m) (h1 : m ≤ 4611686018427387904) : customsmade_Within.f x m = some (x % m) := by
  unfold Rng64 at hx
  unfold customsmade_Within.f
  have e1 : -m < Int.tmod x m ∧ Int.tmod x m < m := by
    by_cases h : 0 ≤ x
    · rw [Int.tmod_eq_emod_of_nonneg h]; exact ⟨by have := Int.emod_nonneg x (show m ≠ 0 by omega); omega, Int.emod_lt_of_pos x h0⟩
    · have := Int.emod_nonneg (-x) (show m ≠ 0 by omega)
      have := Int.emod_lt_of_pos (-x) h0
      have e : Int.tmod x m = -((-x) % m) := by
        have := Int.neg_tmod (-x) m
        rw [Int.neg_neg] at this
        rw [this, Int.tmod_eq_emod_of_nonneg (by omega)]
      omega
  have e2 : Int.tmod (Int.tmod x m + m) m = x % m := by
    rw [Int.tmod_eq_emod_of_nonneg (by omega), Int.add_emod_right]
    by_cases h : 0 ≤ x
    · rw [Int.tmod_eq_emod_of_nonneg h, Int.emod_emod]
    · have h2 : x = Int.tmod x m + m * Int.tdiv x m := (Int.tmod_add_mul_tdiv x m).symm
      have h3 : (Int.tmod x m + m * Int.tdiv x m) % m = Int.tmod x m % m := Int.add_mul_emod_self_left _ _ _
      rw [← h2] at h3; exact h3.symm
  rw [if_neg (by omega)]
  have w1 : wrap64 (Int.tmod x m + m) = Int.tmod x m + m := by unfold wrap64; omega
  rw [w1, e2]
def Src (w0 W : World) (g : Nat) (l : List Int) : Prop := ∃ (ys : List Int) (j : Nat), IsS53 w0 W g ys j ∧ l = ys.drop j ∧ j ≤ ys.length ∧ ∀ x ∈ ys, Rng64 x
theorem srcNext_rng {l : List Int} {m a : Int} {l1 : List Int} (h : srcNext l m = (a, l1)) (hm : 0 < m) : 0 ≤ a ∧ a < m := by
  cases l with
  | nil => simp only [srcNext, Prod.mk.injEq] at h; omega
  | cons x t =>
    simp only [srcNext, Prod.mk.injEq] at h
    rw [← h.1]; exact ⟨Int.emod_nonneg x (by omega), Int.emod_lt_of_pos x hm⟩
theorem src_next {w0 w : World} {g : Nat} {l : List Int} (m : Int) (h : Src w0 w g l) (hB : Below w0.heap.size w0 w) (h0 : 0 < m) (h1 : m ≤ 4611686018427387904) (a : Int) (l1 : List Int) (hn : srcNext l m = (a, l1)) :
    Calls Try.prog 24 #[.pointer (some ⟨g, 0, none⟩), .int .i64 m] w fun e w' => e = .returned (.int .i64 a) ∧ Src w0 w' g l1 ∧ Below w0.heap.size w0 w' ∧ KeepBut w w' g none := by
  obtain ⟨ys, j, hI, rfl, hj, hx⟩ := h
  have hlen : ys.length ≤ 9223372036854775807 := by obtain ⟨A, c, _, _, hr⟩ := hI; exact hr.2.1
  by_cases hlt : j < ys.length
  · rw [List.drop_eq_getElem_cons hlt] at hn
    simp only [srcNext, Prod.mk.injEq] at hn
    have e : customsmade_Source_Next.f ys (j : Int) m = some (a, ((j + 1 : Nat) : Int)) := by
      unfold customsmade_Source_Next.f
      have w1 : wrap64 ((j : Int) + 1) = (j : Int) + 1 := by unfold wrap64; omega
      have w2 : wrap64 ((j : Int) + 1 - 1) = (j : Int) := by unfold wrap64; omega
      have er : rd ys (j : Int) = ys[j] := by unfold rd; rw [Int.toNat_natCast, List.getD_eq_getElem?_getD, List.getElem?_eq_getElem hlt]; rfl
      rw [if_neg (by omega), w1, w2, if_pos (by omega), if_pos (by omega), er, within_is _ m (hx _ (List.getElem_mem hlt)) h0 h1, hn.1]
      rfl
    refine (customsmade_Source_Next.calls g ys j m a _ w0 w hI hB e).mono ?_
    rintro e w' ⟨rfl, hI', hB', hK⟩
    exact ⟨rfl, ⟨ys, j + 1, hI', hn.2.symm, hlt, hx⟩, hB', hK⟩
  · rw [List.drop_of_length_le (by omega)] at hn
    simp only [srcNext, Prod.mk.injEq] at hn
    have e : customsmade_Source_Next.f ys (j : Int) m = some (a, (j : Int)) := by
      unfold customsmade_Source_Next.f
      rw [if_pos (by omega), hn.1]
    refine (customsmade_Source_Next.calls g ys j m a _ w0 w hI hB e).mono ?_
    rintro e w' ⟨rfl, hI', hB', hK⟩
    exact ⟨rfl, ⟨ys, j, hI', by rw [← hn.2, List.drop_of_length_le (by omega)], hj, hx⟩, hB', hK⟩
theorem cut_reads (A : Option Addr) (c : Nat) (xs : List Int) (m : Int) (w : World) (hr : Kd.C (Kd.int .i64) w A xs.length xs) (hc : xs.length ≤ c) (hm : 0 ≤ m) (ys : List Int) (hy : xs.take m.toNat = ys) :
    Calls Try.prog 23 #[.slice A xs.length c, .int .i64 m] w fun e w' => e = .returned (.slice A ys.length c) ∧ w = w' := by
  obtain ⟨i0, hi0, _, hsz, _⟩ := info_parts info3
  have hmax : xs.length ≤ 9223372036854775807 := hr.2.1
  by_cases h : m < (xs.length : Int)
  · have hcut := cut_to (P := Try.prog) 26 3 .i64 Try.underlying26 hi0 A xs.length c m hm (by omega) hc
    have hd : decide (m < (xs.length : Int)) = true := decide_eq_true h
    have e : ys.length = m.toNat := by rw [← hy, List.length_take]; omega
    rw [e]
    clear e h hr hy
    go_enter Try.func23, Try.ntmps23
    go_wp2
    go_ret
    exact ⟨rfl, rfl⟩
  · have hd : decide (m < (xs.length : Int)) = false := decide_eq_false h
    have e : ys.length = xs.length := by rw [← hy, List.length_take]; omega
    rw [e]
    clear e h hr hy
    go_enter Try.func23, Try.ntmps23
    go_wp2
    go_ret
    exact ⟨rfl, rfl⟩
theorem take_reads {A : Option Addr} {xs : List Int} {w : World} (hr : Kd.C (Kd.int .i64) w A xs.length xs) (m : Nat) (ys : List Int) (hy : xs.take m = ys) : Kd.C (Kd.int .i64) w A ys.length ys := by
  by_cases h : m ≤ xs.length
  · rw [← hy]; exact Kd.C_take hr h
  · rw [← hy, List.take_of_length_le (by omega)]; exact hr
def customsmade_Src.f (xs : List Int) (n : Int) : Option (List Int × Int) := some (xs.take n.toNat, 0)
theorem customsmade_Src.take {xs : List Int} {n : Int} {ys : List Int} {j : Int} (h : customsmade_Src.f xs n = some (ys, j)) : xs.take n.toNat = ys := (Prod.mk.inj (Option.some.inj h)).1
theorem customsmade_Src.is {w W : World} {g : Nat} {A : Option Addr} {c : Nat} {xs : List Int} {n : Int} {ys : List Int} {j : Int} (h : customsmade_Src.f xs n = some (ys, j)) (hr : Kd.C (Kd.int .i64) w A xs.length xs) (hb : W.heap[g]? = some (.cells #[.slice A ys.length c, .int .i64 0] 53 (0, 0))) (hg : w.heap.size ≤ g) : IsS53 w W g ys j := by
  obtain ⟨h1, rfl⟩ := Prod.mk.inj (Option.some.inj h)
  exact ⟨A, c, hb, hg, take_reads hr n.toNat ys h1⟩
theorem Src.new (w0 W : World) (A : Option Addr) (c : Nat) (ys : List Int) (hB : Below w0.heap.size w0 W) (hr : Kd.C (Kd.int .i64) w0 A ys.length ys) (hx : ∀ x ∈ ys, Rng64 x) : Src w0 (W.alloc (.cells #[.slice A ys.length c, .int .i64 0] 53)) W.heap.size ys :=
  ⟨ys, 0, IsS53.new w0 W A c ys 0 hB hr, rfl, Nat.zero_le _, hx⟩
theorem Src.below {w0 W W1 : World} {g : Nat} {l : List Int} (h : Src w0 W g l) (hw : Below W.heap.size W W1) : Src w0 W1 g l := by
  obtain ⟨ys, j, hI, hl, hj, hx⟩ := h; exact ⟨ys, j, hI.below hw, hl, hj, hx⟩
theorem Src.grown {w0 W W1 : World} {g : Nat} {l : List Int} {row : Option Nat} (h : Src w0 W g l) (hw : W.grownBy W1 row) (hne : some g ≠ row) : Src w0 W1 g l := by
  obtain ⟨ys, j, hI, hl, hj, hx⟩ := h; exact ⟨ys, j, hI.grown hw hne, hl, hj, hx⟩
theorem Src.lt {w0 W : World} {g : Nat} {l : List Int} (h : Src w0 W g l) : g < W.heap.size := by
  obtain ⟨ys, j, hI, _⟩ := h; exact hI.lt
theorem Src.own_ne {w0 W : World} {g : Nat} {l : List Int} {α : Type} {d : Kd α} {e : Nat} {base : Nat} {ok : Nat → Prop} {v : Value} {xs : List α} (h : Src w0 W g l) (ho : d.R e W base ok v xs) (ht : e ≠ 53) : some g ≠ v.ownBlock := by
  obtain ⟨ys, j, hI, _⟩ := h; exact hI.own_ne ho ht
end Go.Proofs.Yteoieencagcgdaa.PX
end
section
namespace Go.Proofs.Yteoieencagcgdaa.PX
open Go.RowKit Go.Proofs.YteoieencagcgdaaW.PrintWords Go.Proofs.YteoieencagcgdaaW.PrintLast Go.Proofs.YteoieencagcgdaaW.PrintMore
attribute [local go_sem] max2_int min2_int max_two min_two max_three min_three max_four min_four
set_option linter.unusedVariables false
set_option linter.unusedSimpArgs false

mutual
def customsmade_Invoice.l0 : Nat → Bool → Int → List Int → Int → ByteArray → Int → List (S35) → Option (ByteArray × Int × (List (S35)) × (List (S33)))
  | 0, _, _, _, _, _, _, _ => none
  | k + 1, x5, x6, x124000, x124001, x130000, x130001, x130002 => if x6 > 0 then ((customsmade_Source_Next.f x124000 x124001 100000).bind fun bt134 => ((customsmade_Source_Next.f x124000 bt134.2 50).bind fun bt136 => (if x5 = true then ((customsmade_Source_Next.f x124000 bt136.2 1000000000001).bind fun bt139 => (if x130002.length < 8796093022208 then (customsmade_Invoice.l0 k x5 (wrap64 (x6 - 1)) x124000 bt139.2 x130000 x130001 (x130002 ++ [(⟨bt139.1, bt136.1⟩ : S35)])) else (none))) else (if x130002.length < 8796093022208 then (customsmade_Invoice.l0 k x5 (wrap64 (x6 - 1)) x124000 bt136.2 x130000 x130001 (x130002 ++ [(⟨bt134.1, bt136.1⟩ : S35)])) else (none))))) else ((customsmade_Source_Next.f x124000 x124001 6).bind fun bt147 => (customsmade_Invoice.l1 k bt147.1 x124000 bt147.2 x130000 x130001 x130002 ([] : List (S33))))
def customsmade_Invoice.l1 : Nat → Int → List Int → Int → ByteArray → Int → List (S35) → List (S33) → Option (ByteArray × Int × (List (S35)) × (List (S33)))
  | 0, _, _, _, _, _, _, _ => none
  | k + 1, x8, x124000, x124001, x130000, x130001, x130002, x130003 => if x8 > 0 then ((customsmade_Source_Next.f x124000 x124001 9).bind fun bt149 => ((customsmade_Source_Next.f x124000 bt149.2 5000).bind fun bt151 => ((customsmade_Source_Next.f x124000 bt151.2 4).bind fun bt153 => ((customsmade_Currency.f bt153.1).bind fun t155 => ((customsmade_Source_Next.f x124000 bt153.2 3).bind fun bt156 => (if (wrap64 (1 + bt156.1)) = 3 then ((customsmade_Source_Next.f x124000 bt156.2 (x130002.length : Int)).bind fun bt159 => (if x130003.length < 2932031007402 then (customsmade_Invoice.l1 k (wrap64 (x8 - 1)) x124000 bt159.2 x130000 x130001 x130002 (x130003 ++ [(⟨wrap64 (1 + bt149.1), bt151.1, t155, wrap64 (1 + bt156.1), bt159.1⟩ : S33)])) else (none))) else (if x130003.length < 2932031007402 then (customsmade_Invoice.l1 k (wrap64 (x8 - 1)) x124000 bt156.2 x130000 x130001 x130002 (x130003 ++ [(⟨wrap64 (1 + bt149.1), bt151.1, t155, wrap64 (1 + bt156.1), 0⟩ : S33)])) else (none)))))))) else (some (x130000, x130001, x130002, x130003))
end
def customsmade_Invoice.f (k : Nat) (l0 : List Int) : Option (ByteArray × Int × (List (S35)) × (List (S33))) := (customsmade_Src.f l0 100).bind fun bt121 => ((customsmade_Source_Next.f bt121.1 bt121.2 4).bind fun bt124 => ((customsmade_Currency.f bt124.1).bind fun t126 => ((customsmade_Source_Next.f bt121.1 bt124.2 80).bind fun bt127 => ((customsmade_Source_Next.f bt121.1 bt127.2 8).bind fun bt130 => ((customsmade_Source_Next.f bt121.1 bt130.2 6).bind fun bt132 => (customsmade_Invoice.l0 k (bt130.1 == 1) (wrap64 (1 + bt132.1)) bt121.1 bt132.2 t126 bt127.1 ([] : List (S35))))))))
set_option maxHeartbeats 8000000 in
set_option maxRecDepth 100000 in
theorem customsmade_Invoice.calls (k : Nat) (A0 : Option Addr) (c0 : Nat) (l0 : List Int) (r1 : ByteArray) (r2 : Int) (r3 : List (S35)) (r4 : List (S33)) (w : World) (hr0 : Kd.C (Kd.int .i64) w A0 l0.length l0) (hc0 : l0.length ≤ c0) (h : customsmade_Invoice.f k l0 = some (r1, r2, r3, r4)) :
   Calls Try.prog 10 #[.slice A0 l0.length c0] w fun e w' => ∃ v2_ v3_ : Value, e = .returned (.agg #[.string r1, .int .i64 r2, v2_, v3_]) ∧ Kd.R k35 35 w' w.heap.size (fun _ => True) v2_ r3 ∧ Kd.R k33 33 w' w.heap.size (fun _ => True) v3_ r4 ∧ Below w.heap.size w w' := by
  have hu25 := Try.underlying25
  have hu53 := Try.underlying53
  have hu35 := Try.underlying35
  have hu33 := Try.underlying33
  have HR0 := Aside0.mk hr0
  have HC0 := Aside0.mk hc0
  clear hr0 hc0
  have HB := Aside0.mk (Below.refl w.heap.size w)
  have H : ((customsmade_Src.f l0 100).bind fun bt121 => ((customsmade_Source_Next.f bt121.1 bt121.2 4).bind fun bt124 => ((customsmade_Currency.f bt124.1).bind fun t126 => ((customsmade_Source_Next.f bt121.1 bt124.2 80).bind fun bt127 => ((customsmade_Source_Next.f bt121.1 bt127.2 8).bind fun bt130 => ((customsmade_Source_Next.f bt121.1 bt130.2 6).bind fun bt132 => (customsmade_Invoice.l0 k (bt130.1 == 1) (wrap64 (1 + bt132.1)) bt121.1 bt132.2 t126 bt127.1 ([] : List (S35))))))))) = some (r1, r2, r3, r4) := h
  clear h
  replace H := Option.bind_eq_some_iff.mp H
  obtain ⟨⟨t121, t122⟩, A20, H⟩ := H
  replace H : ((customsmade_Source_Next.f t121 t122 4).bind fun bt124 => ((customsmade_Currency.f bt124.1).bind fun t126 => ((customsmade_Source_Next.f t121 bt124.2 80).bind fun bt127 => ((customsmade_Source_Next.f t121 bt127.2 8).bind fun bt130 => ((customsmade_Source_Next.f t121 bt130.2 6).bind fun bt132 => (customsmade_Invoice.l0 k (bt130.1 == 1) (wrap64 (1 + bt132.1)) t121 bt132.2 t126 bt127.1 ([] : List (S35)))))))) = some (r1, r2, r3, r4) := H
  have A2 := Aside0.mk A20
  clear A20
  replace H := Option.bind_eq_some_iff.mp H
  obtain ⟨⟨t124, t125⟩, A30, H⟩ := H
  replace H : ((customsmade_Currency.f t124).bind fun t126 => ((customsmade_Source_Next.f t121 t125 80).bind fun bt127 => ((customsmade_Source_Next.f t121 bt127.2 8).bind fun bt130 => ((customsmade_Source_Next.f t121 bt130.2 6).bind fun bt132 => (customsmade_Invoice.l0 k (bt130.1 == 1) (wrap64 (1 + bt132.1)) t121 bt132.2 t126 bt127.1 ([] : List (S35))))))) = some (r1, r2, r3, r4) := H
  have A3 := Aside0.mk A30
  clear A30
  replace H := Option.bind_eq_some_iff.mp H
  obtain ⟨t126, A40, H⟩ := H
  replace H : ((customsmade_Source_Next.f t121 t125 80).bind fun bt127 => ((customsmade_Source_Next.f t121 bt127.2 8).bind fun bt130 => ((customsmade_Source_Next.f t121 bt130.2 6).bind fun bt132 => (customsmade_Invoice.l0 k (bt130.1 == 1) (wrap64 (1 + bt132.1)) t121 bt132.2 t126 bt127.1 ([] : List (S35)))))) = some (r1, r2, r3, r4) := H
  have A4 := Aside0.mk A40
  clear A40
  replace H := Option.bind_eq_some_iff.mp H
  obtain ⟨⟨t127, t128⟩, A50, H⟩ := H
  replace H : ((customsmade_Source_Next.f t121 t128 8).bind fun bt130 => ((customsmade_Source_Next.f t121 bt130.2 6).bind fun bt132 => (customsmade_Invoice.l0 k (bt130.1 == 1) (wrap64 (1 + bt132.1)) t121 bt132.2 t126 t127 ([] : List (S35))))) = some (r1, r2, r3, r4) := H
  have A5 := Aside0.mk A50
  clear A50
  replace H := Option.bind_eq_some_iff.mp H
  obtain ⟨⟨t130, t131⟩, A60, H⟩ := H
  replace H : ((customsmade_Source_Next.f t121 t131 6).bind fun bt132 => (customsmade_Invoice.l0 k (t130 == 1) (wrap64 (1 + bt132.1)) t121 bt132.2 t126 t127 ([] : List (S35)))) = some (r1, r2, r3, r4) := H
  have A6 := Aside0.mk A60
  clear A60
  replace H := Option.bind_eq_some_iff.mp H
  obtain ⟨⟨t132, t133⟩, A70, H⟩ := H
  replace H : (customsmade_Invoice.l0 k (t130 == 1) (wrap64 (1 + t132)) t121 t133 t126 t127 ([] : List (S35))) = some (r1, r2, r3, r4) := H
  have A7 := Aside0.mk A70
  clear A70
  have H' := Aside0.mk H
  clear H
  go_enter Try.func10, Try.ntmps10
  go_wp2_with (first | ((with_reducible refine gate_dst (N := 2) rfl ?_); refine boxA (N := 2) (cs := #[.string (⟨#[]⟩ : ByteArray), .int .i64 0, .slice none 0 0, .slice none 0 0]) (t := 25) ?_; intro gb120 hg w8 hbox hb; have n0_ := hB HB hb; have n1_ := Aside0.mk (hbox); have n2_ := gW hg HB; have n3_ := gW hg HB; clear HB; have HB := n0_; have BK120 := n1_; have GW120 := n2_; have GE120 := n3_; clear n0_ n1_ n2_ n3_; clear hb hbox hg) | (go_at_call 23; (with_reducible refine (cut_reads _ _ _ _ _ (Kd.C_below HR0.out (aH HB)) HC0.out (by decide) _ (customsmade_Src.take A2.out)).mono ?_); rintro e w' ⟨rfl, rfl⟩) | ((with_reducible refine gate_dst (N := 13) rfl ?_); refine boxA (N := 13) (cs := #[.slice A0 t121.length c0, .int .i64 0]) (t := 53) ?_; intro g123 hg w9 hbox hb2; have hi := customsmade_Src.is A2.out (HR0.out) hbox (by rw [hg]; exact (below_size (aH HB))); have hb := below_step (aH HB) hb2; clear hbox hg; have n0_ := bB BK120 hb2; have n1_ := Aside0.mk (hb); have n2_ := Aside0.mk (hi); have n3_ := Aside0.mk (IsS53.ne_blk hi (blk_below (g := gb120) (o := .cells #[.string (⟨#[]⟩ : ByteArray), .int .i64 0, .slice none 0 0, .slice none 0 0] 25 (0, 0)) (aB BK120) hb2) (by decide)); have n4_ := Aside0.mk (Ne.symm (IsS53.ne_blk hi (blk_below (g := gb120) (o := .cells #[.string (⟨#[]⟩ : ByteArray), .int .i64 0, .slice none 0 0, .slice none 0 0] 25 (0, 0)) (aB BK120) hb2) (by decide))); clear BK120; clear HB; have BK120 := n0_; have HB := n1_; have HI123 := n2_; have NB123_120 := n3_; have NB120_123 := n4_; clear n0_ n1_ n2_ n3_ n4_; clear hb2) | ((with_reducible refine gate_callee (f := 24) rfl ?_); refine goA (some 15) Try.func24 #[.pointer (some ⟨g123, 0, none⟩), .int .i64 4] ?_; (with_reducible refine (customsmade_Source_Next.calls g123 t121 t122 4 t124 t125 w _ ?side1 ?side2 A3.out).mono ?_); (case side1 => repeat (first | (with_reducible first | exact HI123.out | apply IsS53.alloc | apply IsS53.drewN | apply IsS53.drew | apply IsS53.set_1 | refine IsS53.far ?_ NB123_120.out _) | exact HI123.out)); (case side2 => repeat (first | (with_reducible first | exact HB.out | apply below_alloc | apply pw_below_drewN | apply below_drew1 | refine below_set ?_ (IsS53.ge HI123.out) | refine below_set ?_ GE120.out) | exact HB.out)); rintro e w10 ⟨rfl, hi, hb, hk⟩; refine ⟨_, rfl, ?_⟩; replace BK120 := Aside0.mk (KeepBut.blk hk (g' := gb120) (o := .cells #[.string (⟨#[]⟩ : ByteArray), .int .i64 0, .slice none 0 0, .slice none 0 0] 25 (0, 0)) (aB BK120) NB120_123.out (by simp)); replace HB := Aside0.mk (hb); replace HI123 := Aside0.mk (hi); clear hb hk hi) | ((with_reducible refine gate_callee (f := 22) rfl ?_); refine goA (some 16) Try.func22 #[.int .i64 t124] ?_; (with_reducible refine (customsmade_Currency.calls t124 t126 _ A4.out).mono ?_); rintro e w11 ⟨rfl, hb⟩; refine ⟨_, rfl, ?_⟩; have n0_ := bB BK120 hb; have n1_ := Aside0.mk (IsS53.below (by repeat (first | (with_reducible first | exact HI123.out | apply IsS53.alloc | apply IsS53.drewN | apply IsS53.drew | apply IsS53.set_1 | refine IsS53.far ?_ NB123_120.out _) | exact HI123.out)) hb); have n2_ := Aside0.mk (below_step (by repeat (first | (with_reducible first | exact HB.out | apply below_alloc | apply pw_below_drewN | apply below_drew1 | refine below_set ?_ (IsS53.ge HI123.out) | refine below_set ?_ GE120.out) | exact HB.out)) hb); clear BK120; clear HI123; clear HB; have BK120 := n0_; have HI123 := n1_; have HB := n2_; clear n0_ n1_ n2_; clear hb) | ((with_reducible refine gate_callee (f := 24) rfl ?_); refine goA (some 18) Try.func24 #[.pointer (some ⟨g123, 0, none⟩), .int .i64 80] ?_; (with_reducible refine (customsmade_Source_Next.calls g123 t121 t125 80 t127 t128 w _ ?side1 ?side2 A5.out).mono ?_); (case side1 => repeat (first | (with_reducible first | exact HI123.out | apply IsS53.alloc | apply IsS53.drewN | apply IsS53.drew | apply IsS53.set_1 | refine IsS53.far ?_ NB123_120.out _) | exact HI123.out)); (case side2 => repeat (first | (with_reducible first | exact HB.out | apply below_alloc | apply pw_below_drewN | apply below_drew1 | refine below_set ?_ (IsS53.ge HI123.out) | refine below_set ?_ GE120.out) | exact HB.out)); rintro e w12 ⟨rfl, hi, hb, hk⟩; refine ⟨_, rfl, ?_⟩; replace BK120 := Aside0.mk (KeepBut.blk hk (g' := gb120) (o := .cells #[.string (⟨#[]⟩ : ByteArray), .int .i64 0, .slice none 0 0, .slice none 0 0] 25 (0, 0)) (aB BK120) NB120_123.out (by simp)); replace HB := Aside0.mk (hb); replace HI123 := Aside0.mk (hi); clear hb hk hi) | ((with_reducible refine gate_dst (N := 4) rfl ?_); refine boxA (N := 4) (cs := #[.string (⟨#[]⟩ : ByteArray), .int .i64 0, .slice none 0 0, .slice none 0 0]) (t := 25) ?_; intro gb129 hg w13 hbox hb; have n0_ := bB BK120 hb; have n1_ := Aside0.mk (IsS53.below (by repeat (first | (with_reducible first | exact HI123.out | apply IsS53.alloc | apply IsS53.drewN | apply IsS53.drew | apply IsS53.set_1 | refine IsS53.far ?_ NB123_120.out _) | exact HI123.out)) hb); have n2_ := Aside0.mk (below_step (by repeat (first | (with_reducible first | exact HB.out | apply below_alloc | apply pw_below_drewN | apply below_drew1 | refine below_set ?_ (IsS53.ge HI123.out) | refine below_set ?_ GE120.out) | exact HB.out)) hb); have n3_ := Aside0.mk (hbox); have n4_ := Aside0.mk ((by rw [hg]; exact (below_size (by repeat (first | (with_reducible first | exact HB.out | apply below_alloc | apply pw_below_drewN | apply below_drew1 | refine below_set ?_ (IsS53.ge HI123.out) | refine below_set ?_ GE120.out) | exact HB.out))) : w.heap.size ≤ gb129)); have n5_ := Aside0.mk ((by rw [hg]; exact (below_size (by repeat (first | (with_reducible first | exact HB.out | apply below_alloc | apply pw_below_drewN | apply below_drew1 | refine below_set ?_ (IsS53.ge HI123.out) | refine below_set ?_ GE120.out) | exact HB.out))) : w.heap.size ≤ gb129)); have n6_ := nL hg BK120; have n7_ := nG hg BK120; have n8_ := Aside0.mk ((by rw [hg]; exact Nat.ne_of_lt (IsS53.lt (show IsS53 w _ g123 t121 t128 from by repeat (first | (with_reducible first | exact HI123.out | apply IsS53.alloc | apply IsS53.drewN | apply IsS53.drew | apply IsS53.set_1 | refine IsS53.far ?_ NB123_120.out _) | exact HI123.out))) : g123 ≠ gb129)); have n9_ := Aside0.mk ((by rw [hg]; exact Nat.ne_of_gt (IsS53.lt (show IsS53 w _ g123 t121 t128 from by repeat (first | (with_reducible first | exact HI123.out | apply IsS53.alloc | apply IsS53.drewN | apply IsS53.drew | apply IsS53.set_1 | refine IsS53.far ?_ NB123_120.out _) | exact HI123.out))) : gb129 ≠ g123)); clear BK120; clear HI123; clear HB; have BK120 := n0_; have HI123 := n1_; have HB := n2_; have BK129 := n3_; have GW129 := n4_; have GE129 := n5_; have NB120_129 := n6_; have NB129_120 := n7_; have NB123_129 := n8_; have NB129_123 := n9_; clear n0_ n1_ n2_ n3_ n4_ n5_ n6_ n7_ n8_ n9_; clear hb hbox hg; have hnb14 := NB129_120.out; have hnc14 := NB120_129.out; have hnb15 := NB129_123.out; have hnc15 := NB123_129.out; have hcz16_0 : w13.cell? ⟨gb129, 0, none⟩ = some (.string (⟨#[]⟩ : ByteArray)) := lc BK129 0; have hcz16_1 : w13.cell? ⟨gb129, 1, none⟩ = some (.int .i64 0) := lc BK129 1; have hcz16_2 : w13.cell? ⟨gb129, 2, none⟩ = some (.slice none 0 0) := lc BK129 2; have hcz16_3 : w13.cell? ⟨gb129, 3, none⟩ = some (.slice none 0 0) := lc BK129 3; have hfz16_0 := fz BK129 0; have hfz16_1 := fz BK129 1; have hfz16_2 := fz BK129 2; have hfz16_3 := fz BK129 3) | ((with_reducible refine gate_callee (f := 24) rfl ?_); refine goA (some 21) Try.func24 #[.pointer (some ⟨g123, 0, none⟩), .int .i64 8] ?_; (with_reducible refine (customsmade_Source_Next.calls g123 t121 t128 8 t130 t131 w _ ?side1 ?side2 A6.out).mono ?_); (case side1 => repeat (first | (with_reducible first | exact HI123.out | apply IsS53.alloc | apply IsS53.drewN | apply IsS53.drew | apply IsS53.set_1 | refine IsS53.far ?_ NB123_120.out _ | refine IsS53.far ?_ NB123_129.out _) | exact HI123.out)); (case side2 => repeat (first | (with_reducible first | exact HB.out | apply below_alloc | apply pw_below_drewN | apply below_drew1 | refine below_set ?_ (IsS53.ge HI123.out) | refine below_set ?_ GE120.out | refine below_set ?_ GE129.out) | exact HB.out)); rintro e w17 ⟨rfl, hi, hb, hk⟩; refine ⟨_, rfl, ?_⟩; replace BK120 := Aside0.mk (KeepBut.blk hk (g' := gb120) (o := .cells #[.string (⟨#[]⟩ : ByteArray), .int .i64 0, .slice none 0 0, .slice none 0 0] 25 (0, 0)) (by (with_reducible repeat (first | refine blk_drewN ?_ _ | refine blk_drew ?_ | refine blk_alloc ?_ _)); refine blk_far ?_ NB120_129.out _; (with_reducible repeat (first | refine blk_drewN ?_ _ | refine blk_drew ?_ | refine blk_alloc ?_ _)); refine blk_far ?_ NB120_129.out _; (with_reducible repeat (first | refine blk_drewN ?_ _ | refine blk_drew ?_ | refine blk_alloc ?_ _)); refine blk_far ?_ NB120_129.out _; (with_reducible repeat (first | refine blk_drewN ?_ _ | refine blk_drew ?_ | refine blk_alloc ?_ _)); refine blk_far ?_ NB120_129.out _; (with_reducible repeat (first | refine blk_drewN ?_ _ | refine blk_drew ?_ | refine blk_alloc ?_ _)); exact BK120.out) NB120_123.out (by simp)); replace BK129 := Aside0.mk (KeepBut.blk hk (g' := gb129) (o := .cells #[.string t126, .int .i64 t127, .slice none 0 0, .slice none 0 0] 25 (0, 0)) (by (with_reducible repeat (first | refine blk_drewN ?_ _ | refine blk_drew ?_ | refine blk_alloc ?_ _)); refine blk_put (cs := #[.string t126, .int .i64 t127, .slice none 0 0, .slice none 0 0]) ?_ 3 _ rfl; (with_reducible repeat (first | refine blk_drewN ?_ _ | refine blk_drew ?_ | refine blk_alloc ?_ _)); refine blk_put (cs := #[.string t126, .int .i64 t127, .slice none 0 0, .slice none 0 0]) ?_ 2 _ rfl; (with_reducible repeat (first | refine blk_drewN ?_ _ | refine blk_drew ?_ | refine blk_alloc ?_ _)); refine blk_put (cs := #[.string t126, .int .i64 0, .slice none 0 0, .slice none 0 0]) ?_ 1 _ rfl; (with_reducible repeat (first | refine blk_drewN ?_ _ | refine blk_drew ?_ | refine blk_alloc ?_ _)); refine blk_put (cs := #[.string (⟨#[]⟩ : ByteArray), .int .i64 0, .slice none 0 0, .slice none 0 0]) ?_ 0 _ rfl; (with_reducible repeat (first | refine blk_drewN ?_ _ | refine blk_drew ?_ | refine blk_alloc ?_ _)); exact BK129.out) NB129_123.out (by simp)); replace HB := Aside0.mk (hb); replace HI123 := Aside0.mk (hi); clear hb hk hi) | ((with_reducible refine gate_callee (f := 24) rfl ?_); refine goA (some 24) Try.func24 #[.pointer (some ⟨g123, 0, none⟩), .int .i64 6] ?_; (with_reducible refine (customsmade_Source_Next.calls g123 t121 t131 6 t132 t133 w _ ?side1 ?side2 A7.out).mono ?_); (case side1 => repeat (first | (with_reducible first | exact HI123.out | apply IsS53.alloc | apply IsS53.drewN | apply IsS53.drew | apply IsS53.set_1 | refine IsS53.far ?_ NB123_120.out _ | refine IsS53.far ?_ NB123_129.out _) | exact HI123.out)); (case side2 => repeat (first | (with_reducible first | exact HB.out | apply below_alloc | apply pw_below_drewN | apply below_drew1 | refine below_set ?_ (IsS53.ge HI123.out) | refine below_set ?_ GE120.out | refine below_set ?_ GE129.out) | exact HB.out)); rintro e w18 ⟨rfl, hi, hb, hk⟩; refine ⟨_, rfl, ?_⟩; replace BK120 := Aside0.mk (KeepBut.blk hk (g' := gb120) (o := .cells #[.string (⟨#[]⟩ : ByteArray), .int .i64 0, .slice none 0 0, .slice none 0 0] 25 (0, 0)) (aB BK120) NB120_123.out (by simp)); replace BK129 := Aside0.mk (KeepBut.blk hk (g' := gb129) (o := .cells #[.string t126, .int .i64 t127, .slice none 0 0, .slice none 0 0] 25 (0, 0)) (aB BK129) NB129_123.out (by simp)); replace HB := Aside0.mk (hb); replace HI123 := Aside0.mk (hi); clear hb hk hi))
  go_loopg [6] k (fun kq v6 w' => ∃ (x6_1 : Int) (x124001_1 : Int) (x130002_1 : List (S35)) (u130002 : Value), v6 = .int .i64 x6_1 ∧ Aside0 (customsmade_Invoice.l0 kq (t130 == 1) x6_1 t121 x124001_1 t126 t127 x130002_1 = some (r1, r2, r3, r4)) ∧ Aside0 (kq ≤ k) ∧ Aside0 (Kd.R k35 35 w' w.heap.size (fun _ => True) u130002 x130002_1) ∧ Aside0 (w'.heap[gb120]? = some (.cells #[.string (⟨#[]⟩ : ByteArray), .int .i64 0, (.slice none 0 0), (.slice none 0 0)] 25 (0, 0))) ∧ Aside0 (w'.heap[gb129]? = some (.cells #[.string t126, .int .i64 t127, u130002, (.slice none 0 0)] 25 (0, 0))) ∧ Aside0 (IsS53 w w' g123 t121 x124001_1) ∧ Aside0 (Below w.heap.size w w'))
  case atStart => exact ⟨(wrap64 (1 + t132)), (t133), (([] : List (S35))), (.slice none 0 0), (by first | rfl | (simp; done) | (simp [*]; done)), H', ⟨Nat.le_refl _⟩, ⟨by first | exact Kd.R_nil _ _ _ _ _ | exact Kd.N_nil _ _ _ _ _ | exact Kd.V_nil _ _ _ _ _ | exact Kd.Q_nil _ _ _ _ _ | exact Kd.S_nil _ _ _ _ _⟩, ⟨aB BK120⟩, ⟨aB BK129⟩, ⟨by repeat (first | (with_reducible first | exact HI123.out | apply IsS53.alloc | apply IsS53.drewN | apply IsS53.drew | apply IsS53.set_1 | refine IsS53.far ?_ NB123_120.out _ | refine IsS53.far ?_ NB123_129.out _) | exact HI123.out)⟩, ⟨by repeat (first | (with_reducible first | exact HB.out | apply below_alloc | apply pw_below_drewN | apply below_drew1 | refine below_set ?_ (IsS53.ge HI123.out) | refine below_set ?_ GE120.out | refine below_set ?_ GE129.out) | exact HB.out)⟩⟩
  case round =>
   clear H'
   try clear c1
   try clear c2
   try clear p2
   try clear p6
   try clear c10
   try clear c14
   try clear c15
   try clear hcz16_0
   try clear hcz16_1
   try clear hcz16_2
   try clear hcz16_3
   try clear hfz16_0
   try clear hfz16_1
   try clear hfz16_2
   try clear hfz16_3
   obtain ⟨x6_1, x124001_1, x130002_1, u130002, rfl, HA, HK1, HO_130002, BK120, BK129, HI123, HB⟩ := hrel
   cases gk with
   | zero => exact absurd HA.out (by simp [customsmade_Invoice.l0])
   | succ k1 =>
    have H := HA.out
    clear HA
    simp only [customsmade_Invoice.l0] at H
    by_cases c19 : x6_1 > 0
    ·rw [if_pos c19] at H
     have c19b0 : decide (0 < x6_1) = true := decide_eq_true c19
     clear c19
     replace H := Option.bind_eq_some_iff.mp H
     obtain ⟨⟨t134, t135⟩, A200, H⟩ := H
     replace H : ((customsmade_Source_Next.f t121 t135 50).bind fun bt136 => (if (t130 == 1) = true then ((customsmade_Source_Next.f t121 bt136.2 1000000000001).bind fun bt139 => (if x130002_1.length < 8796093022208 then (customsmade_Invoice.l0 k1 (t130 == 1) (wrap64 (x6_1 - 1)) t121 bt139.2 t126 t127 (x130002_1 ++ [(⟨bt139.1, bt136.1⟩ : S35)])) else (none))) else (if x130002_1.length < 8796093022208 then (customsmade_Invoice.l0 k1 (t130 == 1) (wrap64 (x6_1 - 1)) t121 bt136.2 t126 t127 (x130002_1 ++ [(⟨t134, bt136.1⟩ : S35)])) else (none)))) = some (r1, r2, r3, r4) := H
     have A20 := Aside0.mk A200
     clear A200
     replace H := Option.bind_eq_some_iff.mp H
     obtain ⟨⟨t136, t137⟩, A210, H⟩ := H
     replace H : (if (t130 == 1) = true then ((customsmade_Source_Next.f t121 t137 1000000000001).bind fun bt139 => (if x130002_1.length < 8796093022208 then (customsmade_Invoice.l0 k1 (t130 == 1) (wrap64 (x6_1 - 1)) t121 bt139.2 t126 t127 (x130002_1 ++ [(⟨bt139.1, t136⟩ : S35)])) else (none))) else (if x130002_1.length < 8796093022208 then (customsmade_Invoice.l0 k1 (t130 == 1) (wrap64 (x6_1 - 1)) t121 t137 t126 t127 (x130002_1 ++ [(⟨t134, t136⟩ : S35)])) else (none))) = some (r1, r2, r3, r4) := H
     have A21 := Aside0.mk A210
     clear A210
     by_cases c22 : (t130 == 1) = true
     ·rw [if_pos c22] at H
      have c22b0 : (t130 == 1) = true := c22
      (try (have c22b1 : decide (t130 = 1) = true := by simpa using c22))
      (try (have c22b2 : (t130 == 1) = true := by simpa using c22))
      clear c22
      replace H := Option.bind_eq_some_iff.mp H
      obtain ⟨⟨t139, t140⟩, A230, H⟩ := H
      replace H : (if x130002_1.length < 8796093022208 then (customsmade_Invoice.l0 k1 (t130 == 1) (wrap64 (x6_1 - 1)) t121 t140 t126 t127 (x130002_1 ++ [(⟨t139, t136⟩ : S35)])) else (none)) = some (r1, r2, r3, r4) := H
      have A23 := Aside0.mk A230
      clear A230
      by_cases c24 : x130002_1.length < 8796093022208
      ·rw [if_pos c24] at H
       have LMc24 := Aside0.mk c24
       clear c24
       obtain ⟨y141, hy141⟩ : ∃ y_ : List (S35), y_ = (x130002_1 ++ [(⟨t139, t136⟩ : S35)]) := ⟨_, rfl⟩
       replace H : (customsmade_Invoice.l0 k1 (t130 == 1) (wrap64 (x6_1 - 1)) t121 t140 t126 t127 y141) = some (r1, r2, r3, r4) := by first | (rw [hy141]; with_reducible exact H) | (have H2_ := (Option.bind_some _ _).symm.trans H; rw [hy141]; with_reducible exact H2_) | (have H2_ := (Option.bind_some _ _).symm.trans H; with_reducible exact H2_) | with_reducible exact H | (rw [hy141]; exact H) | exact H
       have Ny141 := Aside0.mk hy141
       clear hy141
       have H' := Aside0.mk H
       clear H
       (try (revert c22b0; generalize (t130 == 1) = bq_ at *; intro c22b0; subst c22b0)) -- BOOLFIX
       go_wp2_with (first | ((with_reducible refine gate_callee (f := 24) rfl ?_); refine goA (some 31) Try.func24 #[.pointer (some ⟨g123, 0, none⟩), .int .i64 100000] ?_; (with_reducible refine (customsmade_Source_Next.calls g123 t121 x124001_1 100000 t134 t135 w _ ?side1 ?side2 A20.out).mono ?_); (case side1 => repeat (first | (with_reducible first | exact HI123.out | apply IsS53.alloc | apply IsS53.drewN | apply IsS53.drew | apply IsS53.set_1 | refine IsS53.far ?_ NB123_120.out _ | refine IsS53.far ?_ NB123_129.out _) | exact HI123.out)); (case side2 => repeat (first | (with_reducible first | exact HB.out | apply below_alloc | apply pw_below_drewN | apply below_drew1 | refine below_set ?_ (IsS53.ge HI123.out) | refine below_set ?_ GE120.out | refine below_set ?_ GE129.out) | exact HB.out)); rintro e w25 ⟨rfl, hi, hb, hk⟩; refine ⟨_, rfl, ?_⟩; replace HO_130002 := Aside0.mk (Kd.R_mono (Kd.R_keep (IsS53.apart (show IsS53 w _ g123 t121 x124001_1 from by repeat (first | (with_reducible first | exact HI123.out | apply IsS53.alloc | apply IsS53.drewN | apply IsS53.drew | apply IsS53.set_1 | refine IsS53.far ?_ NB123_120.out _ | refine IsS53.far ?_ NB123_129.out _) | exact HI123.out)) (aR HO_130002) (by decide)) hk (fun _ h => h.2)) (fun _ h => h.1)); replace BK120 := Aside0.mk (KeepBut.blk hk (g' := gb120) (o := .cells #[.string (⟨#[]⟩ : ByteArray), .int .i64 0, .slice none 0 0, .slice none 0 0] 25 (0, 0)) (aB BK120) NB120_123.out (by simp)); replace BK129 := Aside0.mk (KeepBut.blk hk (g' := gb129) (o := .cells #[.string t126, .int .i64 t127, u130002, .slice none 0 0] 25 (0, 0)) (aB BK129) NB129_123.out (by simp)); replace HB := Aside0.mk (hb); replace HI123 := Aside0.mk (hi); clear hb hk hi) | ((with_reducible refine gate_callee (f := 24) rfl ?_); refine goA (some 33) Try.func24 #[.pointer (some ⟨g123, 0, none⟩), .int .i64 50] ?_; (with_reducible refine (customsmade_Source_Next.calls g123 t121 t135 50 t136 t137 w _ ?side1 ?side2 A21.out).mono ?_); (case side1 => repeat (first | (with_reducible first | exact HI123.out | apply IsS53.alloc | apply IsS53.drewN | apply IsS53.drew | apply IsS53.set_1 | refine IsS53.far ?_ NB123_120.out _ | refine IsS53.far ?_ NB123_129.out _) | exact HI123.out)); (case side2 => repeat (first | (with_reducible first | exact HB.out | apply below_alloc | apply pw_below_drewN | apply below_drew1 | refine below_set ?_ (IsS53.ge HI123.out) | refine below_set ?_ GE120.out | refine below_set ?_ GE129.out) | exact HB.out)); rintro e w26 ⟨rfl, hi, hb, hk⟩; refine ⟨_, rfl, ?_⟩; replace HO_130002 := Aside0.mk (Kd.R_mono (Kd.R_keep (IsS53.apart (show IsS53 w _ g123 t121 t135 from by repeat (first | (with_reducible first | exact HI123.out | apply IsS53.alloc | apply IsS53.drewN | apply IsS53.drew | apply IsS53.set_1 | refine IsS53.far ?_ NB123_120.out _ | refine IsS53.far ?_ NB123_129.out _) | exact HI123.out)) (aR HO_130002) (by decide)) hk (fun _ h => h.2)) (fun _ h => h.1)); replace BK120 := Aside0.mk (KeepBut.blk hk (g' := gb120) (o := .cells #[.string (⟨#[]⟩ : ByteArray), .int .i64 0, .slice none 0 0, .slice none 0 0] 25 (0, 0)) (aB BK120) NB120_123.out (by simp)); replace BK129 := Aside0.mk (KeepBut.blk hk (g' := gb129) (o := .cells #[.string t126, .int .i64 t127, u130002, .slice none 0 0] 25 (0, 0)) (aB BK129) NB129_123.out (by simp)); replace HB := Aside0.mk (hb); replace HI123 := Aside0.mk (hi); clear hb hk hi) | ((with_reducible refine gate_dst (N := 7) rfl ?_); refine boxA (N := 7) (cs := #[.int .i64 0, .int .i64 0]) (t := 35) ?_; intro gb138 hg w27 hbox hb; have n0_ := Aside0.mk (Kd.R_below (Kd.R_elderB (aR HO_130002) gb138 (Nat.le_of_eq hg.symm)) hb); have n1_ := bB BK120 hb; have n2_ := bB BK129 hb; have n3_ := Aside0.mk (IsS53.below (by repeat (first | (with_reducible first | exact HI123.out | apply IsS53.alloc | apply IsS53.drewN | apply IsS53.drew | apply IsS53.set_1 | refine IsS53.far ?_ NB123_120.out _ | refine IsS53.far ?_ NB123_129.out _) | exact HI123.out)) hb); have n4_ := Aside0.mk (below_step (by repeat (first | (with_reducible first | exact HB.out | apply below_alloc | apply pw_below_drewN | apply below_drew1 | refine below_set ?_ (IsS53.ge HI123.out) | refine below_set ?_ GE120.out | refine below_set ?_ GE129.out) | exact HB.out)) hb); have n5_ := Aside0.mk (hbox); have n6_ := Aside0.mk ((by rw [hg]; exact (below_size (by repeat (first | (with_reducible first | exact HB.out | apply below_alloc | apply pw_below_drewN | apply below_drew1 | refine below_set ?_ (IsS53.ge HI123.out) | refine below_set ?_ GE120.out | refine below_set ?_ GE129.out) | exact HB.out))) : w.heap.size ≤ gb138)); have n7_ := Aside0.mk ((by rw [hg]; exact (below_size (by repeat (first | (with_reducible first | exact HB.out | apply below_alloc | apply pw_below_drewN | apply below_drew1 | refine below_set ?_ (IsS53.ge HI123.out) | refine below_set ?_ GE120.out | refine below_set ?_ GE129.out) | exact HB.out))) : w.heap.size ≤ gb138)); have n8_ := nL hg BK120; have n9_ := nG hg BK120; have n10_ := nL hg BK129; have n11_ := nG hg BK129; have n12_ := Aside0.mk ((by rw [hg]; exact Nat.ne_of_lt (IsS53.lt (show IsS53 w _ g123 t121 t137 from by repeat (first | (with_reducible first | exact HI123.out | apply IsS53.alloc | apply IsS53.drewN | apply IsS53.drew | apply IsS53.set_1 | refine IsS53.far ?_ NB123_120.out _ | refine IsS53.far ?_ NB123_129.out _) | exact HI123.out))) : g123 ≠ gb138)); have n13_ := Aside0.mk ((by rw [hg]; exact Nat.ne_of_gt (IsS53.lt (show IsS53 w _ g123 t121 t137 from by repeat (first | (with_reducible first | exact HI123.out | apply IsS53.alloc | apply IsS53.drewN | apply IsS53.drew | apply IsS53.set_1 | refine IsS53.far ?_ NB123_120.out _ | refine IsS53.far ?_ NB123_129.out _) | exact HI123.out))) : gb138 ≠ g123)); clear HO_130002; clear BK120; clear BK129; clear HI123; clear HB; have HO_130002 := n0_; have BK120 := n1_; have BK129 := n2_; have HI123 := n3_; have HB := n4_; have BK138 := n5_; have GW138 := n6_; have GE138 := n7_; have NB120_138 := n8_; have NB138_120 := n9_; have NB129_138 := n10_; have NB138_129 := n11_; have NB123_138 := n12_; have NB138_123 := n13_; clear n0_ n1_ n2_ n3_ n4_ n5_ n6_ n7_ n8_ n9_ n10_ n11_ n12_ n13_; clear hb hbox hg; have hnb28 := NB138_120.out; have hnc28 := NB120_138.out; have hnb29 := NB138_129.out; have hnc29 := NB129_138.out; have hnb30 := NB138_123.out; have hnc30 := NB123_138.out; have hcz31_0 : w27.cell? ⟨gb138, 0, none⟩ = some (.int .i64 0) := lc BK138 0; have hcz31_1 : w27.cell? ⟨gb138, 1, none⟩ = some (.int .i64 0) := lc BK138 1; have hfz31_0 := fz BK138 0; have hfz31_1 := fz BK138 1) | ((with_reducible refine gate_callee (f := 24) rfl ?_); refine goA (some 37) Try.func24 #[.pointer (some ⟨g123, 0, none⟩), .int .i64 1000000000001] ?_; (with_reducible refine (customsmade_Source_Next.calls g123 t121 t137 1000000000001 t139 t140 w _ ?side1 ?side2 A23.out).mono ?_); (case side1 => repeat (first | (with_reducible first | exact HI123.out | apply IsS53.alloc | apply IsS53.drewN | apply IsS53.drew | apply IsS53.set_1 | refine IsS53.far ?_ NB123_120.out _ | refine IsS53.far ?_ NB123_129.out _ | refine IsS53.far ?_ NB123_138.out _) | exact HI123.out)); (case side2 => repeat (first | (with_reducible first | exact HB.out | apply below_alloc | apply pw_below_drewN | apply below_drew1 | refine below_set ?_ (IsS53.ge HI123.out) | refine below_set ?_ GE120.out | refine below_set ?_ GE129.out | refine below_set ?_ GE138.out) | exact HB.out)); rintro e w32 ⟨rfl, hi, hb, hk⟩; refine ⟨_, rfl, ?_⟩; replace HO_130002 := Aside0.mk (Kd.R_mono (Kd.R_keep (IsS53.apart (show IsS53 w _ g123 t121 t137 from by repeat (first | (with_reducible first | exact HI123.out | apply IsS53.alloc | apply IsS53.drewN | apply IsS53.drew | apply IsS53.set_1 | refine IsS53.far ?_ NB123_120.out _ | refine IsS53.far ?_ NB123_129.out _ | refine IsS53.far ?_ NB123_138.out _) | exact HI123.out)) (by (with_reducible repeat (first | apply Kd.R_alloc | apply Kd.R_drewN | apply Kd.R_drew)); exact (Kd.R_mono (Kd.R_far (p := ⟨gb138, 1, none⟩) (Kd.R_far (p := ⟨gb138, 0, none⟩) (Kd.R_mono HO_130002.out (fun k_ hk => (⟨hk, hk.2⟩ : _ ∧ k_ ≠ gb138))) (fun _ hk => hk.2) (.int .i64 t134)) (fun _ hk => hk.2) (.int .i64 t136)) (fun _ h_ => h_.1))) (by decide)) hk (fun _ h => h.2)) (fun _ h => h.1)); replace BK120 := Aside0.mk (KeepBut.blk hk (g' := gb120) (o := .cells #[.string (⟨#[]⟩ : ByteArray), .int .i64 0, .slice none 0 0, .slice none 0 0] 25 (0, 0)) (by (with_reducible repeat (first | refine blk_drewN ?_ _ | refine blk_drew ?_ | refine blk_alloc ?_ _)); refine blk_far ?_ NB120_138.out _; (with_reducible repeat (first | refine blk_drewN ?_ _ | refine blk_drew ?_ | refine blk_alloc ?_ _)); refine blk_far ?_ NB120_138.out _; (with_reducible repeat (first | refine blk_drewN ?_ _ | refine blk_drew ?_ | refine blk_alloc ?_ _)); exact BK120.out) NB120_123.out (by simp)); replace BK129 := Aside0.mk (KeepBut.blk hk (g' := gb129) (o := .cells #[.string t126, .int .i64 t127, u130002, .slice none 0 0] 25 (0, 0)) (by (with_reducible repeat (first | refine blk_drewN ?_ _ | refine blk_drew ?_ | refine blk_alloc ?_ _)); refine blk_far ?_ NB129_138.out _; (with_reducible repeat (first | refine blk_drewN ?_ _ | refine blk_drew ?_ | refine blk_alloc ?_ _)); refine blk_far ?_ NB129_138.out _; (with_reducible repeat (first | refine blk_drewN ?_ _ | refine blk_drew ?_ | refine blk_alloc ?_ _)); exact BK129.out) NB129_123.out (by simp)); replace BK138 := Aside0.mk (KeepBut.blk hk (g' := gb138) (o := .cells #[.int .i64 t134, .int .i64 t136] 35 (0, 0)) (by (with_reducible repeat (first | refine blk_drewN ?_ _ | refine blk_drew ?_ | refine blk_alloc ?_ _)); refine blk_put (cs := #[.int .i64 t134, .int .i64 0]) ?_ 1 _ rfl; (with_reducible repeat (first | refine blk_drewN ?_ _ | refine blk_drew ?_ | refine blk_alloc ?_ _)); refine blk_put (cs := #[.int .i64 0, .int .i64 0]) ?_ 0 _ rfl; (with_reducible repeat (first | refine blk_drewN ?_ _ | refine blk_drew ?_ | refine blk_alloc ?_ _)); exact BK138.out) NB138_123.out (by simp)); replace HB := Aside0.mk (hb); replace HI123 := Aside0.mk (hi); have hcz33_0 : w32.cell? ⟨gb138, 0, none⟩ = some (.int .i64 t134) := lc BK138 0; have hcz33_1 : w32.cell? ⟨gb138, 1, none⟩ = some (.int .i64 t136) := lc BK138 1; have hfz33_0 := fz BK138 0; have hfz33_1 := fz BK138 1; have hnb34 := NB129_120.out; have hnc34 := NB120_129.out; have hnb35 := NB129_123.out; have hnc35 := NB123_129.out; have hcz36_0 : w32.cell? ⟨gb129, 0, none⟩ = some (.string t126) := lc BK129 0; have hcz36_1 : w32.cell? ⟨gb129, 1, none⟩ = some (.int .i64 t127) := lc BK129 1; have hcz36_2 : w32.cell? ⟨gb129, 2, none⟩ = some (u130002) := lc BK129 2; have hcz36_3 : w32.cell? ⟨gb129, 3, none⟩ = some (.slice none 0 0) := lc BK129 3; have hfz36_0 := fz BK129 0; have hfz36_1 := fz BK129 1; have hfz36_2 := fz BK129 2; have hfz36_3 := fz BK129 3; clear hb hk hi) | ((with_reducible refine gate_builtin (b := .append) (xs := #[.tmp 40, .tmp 42]) rfl ?_); at_builtin; refine Kd.R_append k35 (w0 := w) w.heap.size rfl (.tmp 40) (.tmp 42) 22 35 (.agg #[(.int .i64 0), (.int .i64 0)]) 16 rfl Try.underlying22 info35 rfl (by decide) (by omega) u130002 x130002_1 (⟨t139, t136⟩ : S35) [.int .i64 t139, .int .i64 t136] (fun k_ => k_ ≠ gb138) (fun _ => False) rfl (by first | (go_simp; done) | (go_simp; rfl)) ?aP (fun _ hk => hk.elim) ?aF ?aO ?aB ?aS ?aL ?_; (case aP => exact k35_mkM _ _ _ (⟨t139, t136⟩ : S35)); (case aB => exact (by repeat (first | (with_reducible first | exact HB.out | apply below_alloc | apply pw_below_drewN | apply below_drew1 | refine below_set ?_ (IsS53.ge HI123.out) | refine below_set ?_ GE120.out | refine below_set ?_ GE129.out | refine below_set ?_ GE138.out) | exact HB.out))); (case aF => exact (fun k_ hk => Kd.freshB (g := gb138) (o := .cells #[.int .i64 t139, .int .i64 t136] 35 (0, 0)) (by (with_reducible repeat (first | refine blk_drewN ?_ _ | refine blk_drew ?_ | refine blk_alloc ?_ _)); refine blk_put (cs := #[.int .i64 t134, .int .i64 t136]) ?_ 0 _ rfl; (with_reducible repeat (first | refine blk_drewN ?_ _ | refine blk_drew ?_ | refine blk_alloc ?_ _)); exact BK138.out) k_ hk)); (case aO => exact (by (with_reducible repeat (first | apply Kd.R_alloc | apply Kd.R_drewN | apply Kd.R_drew)); exact Kd.R_mono (Kd.R_far (p := ⟨gb138, 0, none⟩) (Kd.R_mono HO_130002.out (fun k_ hk => (⟨hk, hk.2⟩ : _ ∧ k_ ≠ gb138))) (fun _ hk => hk.2) (.int .i64 t139)) (fun _ hk => hk.1.2))); (case aS => exact (below_size (by repeat (first | (with_reducible first | exact HB.out | apply below_alloc | apply pw_below_drewN | apply below_drew1 | refine below_set ?_ (IsS53.ge HI123.out) | refine below_set ?_ GE120.out | refine below_set ?_ GE129.out | refine below_set ?_ GE138.out) | exact HB.out)))); (case aL => have := LMc24.out; omega); intro v142 w37 ho hb hg hat; rw [← Ny141.out] at ho; replace BK120 := Aside0.mk (blk_grown (g := gb120) (o := .cells #[.string (⟨#[]⟩ : ByteArray), .int .i64 0, .slice none 0 0, .slice none 0 0] 25 (0, 0)) (by (with_reducible repeat (first | refine blk_drewN ?_ _ | refine blk_drew ?_ | refine blk_alloc ?_ _)); refine blk_far ?_ NB120_138.out _; (with_reducible repeat (first | refine blk_drewN ?_ _ | refine blk_drew ?_ | refine blk_alloc ?_ _)); exact BK120.out) hg (Kd.R_ne HO_130002.out BK120.out (by decide))); replace BK129 := Aside0.mk (blk_grown (g := gb129) (o := .cells #[.string t126, .int .i64 t127, u130002, .slice none 0 0] 25 (0, 0)) (by (with_reducible repeat (first | refine blk_drewN ?_ _ | refine blk_drew ?_ | refine blk_alloc ?_ _)); refine blk_far ?_ NB129_138.out _; (with_reducible repeat (first | refine blk_drewN ?_ _ | refine blk_drew ?_ | refine blk_alloc ?_ _)); exact BK129.out) hg (Kd.R_ne HO_130002.out BK129.out (by decide))); replace HI123 := Aside0.mk (IsS53.grown (show IsS53 w _ g123 t121 t140 from by repeat (first | (with_reducible first | exact HI123.out | apply IsS53.alloc | apply IsS53.drewN | apply IsS53.drew | apply IsS53.set_1 | refine IsS53.far ?_ NB123_120.out _ | refine IsS53.far ?_ NB123_129.out _ | refine IsS53.far ?_ NB123_138.out _) | exact HI123.out)) hg (IsS53.own_ne HI123.out HO_130002.out (by decide))); replace BK138 := Aside0.mk (blk_grown (g := gb138) (o := .cells #[.int .i64 t139, .int .i64 t136] 35 (0, 0)) (by (with_reducible repeat (first | refine blk_drewN ?_ _ | refine blk_drew ?_ | refine blk_alloc ?_ _)); refine blk_put (cs := #[.int .i64 t134, .int .i64 t136]) ?_ 0 _ rfl; (with_reducible repeat (first | refine blk_drewN ?_ _ | refine blk_drew ?_ | refine blk_alloc ?_ _)); exact BK138.out) hg (Kd.R_away HO_130002.out (fun _ hk => hk.2))); replace HB := Aside0.mk (hb); have HO143 := Aside0.mk (ho); clear HO_130002; clear ho hb hg hat; obtain ⟨Ao38, co38, eo38⟩ := Kd.R_slice HO143.out; subst eo38; have hcz39_0 : w37.cell? ⟨gb129, 0, none⟩ = some (.string t126) := lc BK129 0; have hcz39_1 : w37.cell? ⟨gb129, 1, none⟩ = some (.int .i64 t127) := lc BK129 1; have hcz39_2 : w37.cell? ⟨gb129, 2, none⟩ = some (u130002) := lc BK129 2; have hcz39_3 : w37.cell? ⟨gb129, 3, none⟩ = some (.slice none 0 0) := lc BK129 3; have hfz39_0 := fz BK129 0; have hfz39_1 := fz BK129 1; have hfz39_2 := fz BK129 2; have hfz39_3 := fz BK129 3))
       go_roundg k1
       case measure => have := HK1.out; omega
       case rel => exact ⟨(wrap64 (x6_1 - 1)), (t140), (y141), (.slice Ao38 y141.length co38), (by first | rfl | (simp; done) | (simp [*]; done)), H', ⟨by have := HK1.out; omega⟩, ⟨by (with_reducible repeat (first | apply Kd.R_alloc | apply Kd.R_drewN | apply Kd.R_drew)); exact Kd.R_mono (Kd.R_far (p := ⟨gb129, 2, none⟩) (Kd.R_types HO143.out BK129.out (by decide)) (fun _ hk => hk.2) (.slice Ao38 y141.length co38)) (fun _ hk => trivial)⟩, ⟨by (with_reducible repeat (first | refine blk_drewN ?_ _ | refine blk_drew ?_ | refine blk_alloc ?_ _)); refine blk_far ?_ NB120_129.out _; (with_reducible repeat (first | refine blk_drewN ?_ _ | refine blk_drew ?_ | refine blk_alloc ?_ _)); exact BK120.out⟩, ⟨by (with_reducible repeat (first | refine blk_drewN ?_ _ | refine blk_drew ?_ | refine blk_alloc ?_ _)); refine blk_put (cs := #[.string t126, .int .i64 t127, u130002, .slice none 0 0]) ?_ 2 _ rfl; (with_reducible repeat (first | refine blk_drewN ?_ _ | refine blk_drew ?_ | refine blk_alloc ?_ _)); exact BK129.out⟩, ⟨by repeat (first | (with_reducible first | exact HI123.out | apply IsS53.alloc | apply IsS53.drewN | apply IsS53.drew | apply IsS53.set_1 | refine IsS53.far ?_ NB123_120.out _ | refine IsS53.far ?_ NB123_129.out _ | refine IsS53.far ?_ NB123_138.out _) | exact HI123.out)⟩, ⟨by repeat (first | (with_reducible first | exact HB.out | apply below_alloc | apply pw_below_drewN | apply below_drew1 | refine below_set ?_ (IsS53.ge HI123.out) | refine below_set ?_ GE120.out | refine below_set ?_ GE129.out | refine below_set ?_ GE138.out) | exact HB.out)⟩⟩
      ·rw [if_neg c24] at H
       exact absurd H (by simp)
     ·rw [if_neg c22] at H
      have c22b0 : (t130 == 1) = false := by simpa using c22
      (try (have c22b1 : decide (t130 = 1) = false := by simpa using c22))
      (try (have c22b2 : (t130 == 1) = false := by simpa using c22))
      (try (have c22b3 : ¬ (t130 = 1) := by simpa using c22))
      clear c22
      by_cases c40 : x130002_1.length < 8796093022208
      ·rw [if_pos c40] at H
       have LMc40 := Aside0.mk c40
       clear c40
       obtain ⟨y144, hy144⟩ : ∃ y_ : List (S35), y_ = (x130002_1 ++ [(⟨t134, t136⟩ : S35)]) := ⟨_, rfl⟩
       replace H : (customsmade_Invoice.l0 k1 (t130 == 1) (wrap64 (x6_1 - 1)) t121 t137 t126 t127 y144) = some (r1, r2, r3, r4) := by first | (rw [hy144]; with_reducible exact H) | (have H2_ := (Option.bind_some _ _).symm.trans H; rw [hy144]; with_reducible exact H2_) | (have H2_ := (Option.bind_some _ _).symm.trans H; with_reducible exact H2_) | with_reducible exact H | (rw [hy144]; exact H) | exact H
       have Ny144 := Aside0.mk hy144
       clear hy144
       have H' := Aside0.mk H
       clear H
       (try (revert c22b0; generalize (t130 == 1) = bq_ at *; intro c22b0; subst c22b0)) -- BOOLFIX
       go_wp2_with (first | ((with_reducible refine gate_callee (f := 24) rfl ?_); refine goA (some 31) Try.func24 #[.pointer (some ⟨g123, 0, none⟩), .int .i64 100000] ?_; (with_reducible refine (customsmade_Source_Next.calls g123 t121 x124001_1 100000 t134 t135 w _ ?side1 ?side2 A20.out).mono ?_); (case side1 => repeat (first | (with_reducible first | exact HI123.out | apply IsS53.alloc | apply IsS53.drewN | apply IsS53.drew | apply IsS53.set_1 | refine IsS53.far ?_ NB123_120.out _ | refine IsS53.far ?_ NB123_129.out _) | exact HI123.out)); (case side2 => repeat (first | (with_reducible first | exact HB.out | apply below_alloc | apply pw_below_drewN | apply below_drew1 | refine below_set ?_ (IsS53.ge HI123.out) | refine below_set ?_ GE120.out | refine below_set ?_ GE129.out) | exact HB.out)); rintro e w41 ⟨rfl, hi, hb, hk⟩; refine ⟨_, rfl, ?_⟩; replace HO_130002 := Aside0.mk (Kd.R_mono (Kd.R_keep (IsS53.apart (show IsS53 w _ g123 t121 x124001_1 from by repeat (first | (with_reducible first | exact HI123.out | apply IsS53.alloc | apply IsS53.drewN | apply IsS53.drew | apply IsS53.set_1 | refine IsS53.far ?_ NB123_120.out _ | refine IsS53.far ?_ NB123_129.out _) | exact HI123.out)) (aR HO_130002) (by decide)) hk (fun _ h => h.2)) (fun _ h => h.1)); replace BK120 := Aside0.mk (KeepBut.blk hk (g' := gb120) (o := .cells #[.string (⟨#[]⟩ : ByteArray), .int .i64 0, .slice none 0 0, .slice none 0 0] 25 (0, 0)) (aB BK120) NB120_123.out (by simp)); replace BK129 := Aside0.mk (KeepBut.blk hk (g' := gb129) (o := .cells #[.string t126, .int .i64 t127, u130002, .slice none 0 0] 25 (0, 0)) (aB BK129) NB129_123.out (by simp)); replace HB := Aside0.mk (hb); replace HI123 := Aside0.mk (hi); clear hb hk hi) | ((with_reducible refine gate_callee (f := 24) rfl ?_); refine goA (some 33) Try.func24 #[.pointer (some ⟨g123, 0, none⟩), .int .i64 50] ?_; (with_reducible refine (customsmade_Source_Next.calls g123 t121 t135 50 t136 t137 w _ ?side1 ?side2 A21.out).mono ?_); (case side1 => repeat (first | (with_reducible first | exact HI123.out | apply IsS53.alloc | apply IsS53.drewN | apply IsS53.drew | apply IsS53.set_1 | refine IsS53.far ?_ NB123_120.out _ | refine IsS53.far ?_ NB123_129.out _) | exact HI123.out)); (case side2 => repeat (first | (with_reducible first | exact HB.out | apply below_alloc | apply pw_below_drewN | apply below_drew1 | refine below_set ?_ (IsS53.ge HI123.out) | refine below_set ?_ GE120.out | refine below_set ?_ GE129.out) | exact HB.out)); rintro e w42 ⟨rfl, hi, hb, hk⟩; refine ⟨_, rfl, ?_⟩; replace HO_130002 := Aside0.mk (Kd.R_mono (Kd.R_keep (IsS53.apart (show IsS53 w _ g123 t121 t135 from by repeat (first | (with_reducible first | exact HI123.out | apply IsS53.alloc | apply IsS53.drewN | apply IsS53.drew | apply IsS53.set_1 | refine IsS53.far ?_ NB123_120.out _ | refine IsS53.far ?_ NB123_129.out _) | exact HI123.out)) (aR HO_130002) (by decide)) hk (fun _ h => h.2)) (fun _ h => h.1)); replace BK120 := Aside0.mk (KeepBut.blk hk (g' := gb120) (o := .cells #[.string (⟨#[]⟩ : ByteArray), .int .i64 0, .slice none 0 0, .slice none 0 0] 25 (0, 0)) (aB BK120) NB120_123.out (by simp)); replace BK129 := Aside0.mk (KeepBut.blk hk (g' := gb129) (o := .cells #[.string t126, .int .i64 t127, u130002, .slice none 0 0] 25 (0, 0)) (aB BK129) NB129_123.out (by simp)); replace HB := Aside0.mk (hb); replace HI123 := Aside0.mk (hi); clear hb hk hi) | ((with_reducible refine gate_dst (N := 7) rfl ?_); refine boxA (N := 7) (cs := #[.int .i64 0, .int .i64 0]) (t := 35) ?_; intro gb138 hg w43 hbox hb; have n0_ := Aside0.mk (Kd.R_below (Kd.R_elderB (aR HO_130002) gb138 (Nat.le_of_eq hg.symm)) hb); have n1_ := bB BK120 hb; have n2_ := bB BK129 hb; have n3_ := Aside0.mk (IsS53.below (by repeat (first | (with_reducible first | exact HI123.out | apply IsS53.alloc | apply IsS53.drewN | apply IsS53.drew | apply IsS53.set_1 | refine IsS53.far ?_ NB123_120.out _ | refine IsS53.far ?_ NB123_129.out _) | exact HI123.out)) hb); have n4_ := Aside0.mk (below_step (by repeat (first | (with_reducible first | exact HB.out | apply below_alloc | apply pw_below_drewN | apply below_drew1 | refine below_set ?_ (IsS53.ge HI123.out) | refine below_set ?_ GE120.out | refine below_set ?_ GE129.out) | exact HB.out)) hb); have n5_ := Aside0.mk (hbox); have n6_ := Aside0.mk ((by rw [hg]; exact (below_size (by repeat (first | (with_reducible first | exact HB.out | apply below_alloc | apply pw_below_drewN | apply below_drew1 | refine below_set ?_ (IsS53.ge HI123.out) | refine below_set ?_ GE120.out | refine below_set ?_ GE129.out) | exact HB.out))) : w.heap.size ≤ gb138)); have n7_ := Aside0.mk ((by rw [hg]; exact (below_size (by repeat (first | (with_reducible first | exact HB.out | apply below_alloc | apply pw_below_drewN | apply below_drew1 | refine below_set ?_ (IsS53.ge HI123.out) | refine below_set ?_ GE120.out | refine below_set ?_ GE129.out) | exact HB.out))) : w.heap.size ≤ gb138)); have n8_ := nL hg BK120; have n9_ := nG hg BK120; have n10_ := nL hg BK129; have n11_ := nG hg BK129; have n12_ := Aside0.mk ((by rw [hg]; exact Nat.ne_of_lt (IsS53.lt (show IsS53 w _ g123 t121 t137 from by repeat (first | (with_reducible first | exact HI123.out | apply IsS53.alloc | apply IsS53.drewN | apply IsS53.drew | apply IsS53.set_1 | refine IsS53.far ?_ NB123_120.out _ | refine IsS53.far ?_ NB123_129.out _) | exact HI123.out))) : g123 ≠ gb138)); have n13_ := Aside0.mk ((by rw [hg]; exact Nat.ne_of_gt (IsS53.lt (show IsS53 w _ g123 t121 t137 from by repeat (first | (with_reducible first | exact HI123.out | apply IsS53.alloc | apply IsS53.drewN | apply IsS53.drew | apply IsS53.set_1 | refine IsS53.far ?_ NB123_120.out _ | refine IsS53.far ?_ NB123_129.out _) | exact HI123.out))) : gb138 ≠ g123)); clear HO_130002; clear BK120; clear BK129; clear HI123; clear HB; have HO_130002 := n0_; have BK120 := n1_; have BK129 := n2_; have HI123 := n3_; have HB := n4_; have BK138 := n5_; have GW138 := n6_; have GE138 := n7_; have NB120_138 := n8_; have NB138_120 := n9_; have NB129_138 := n10_; have NB138_129 := n11_; have NB123_138 := n12_; have NB138_123 := n13_; clear n0_ n1_ n2_ n3_ n4_ n5_ n6_ n7_ n8_ n9_ n10_ n11_ n12_ n13_; clear hb hbox hg; have hnb44 := NB138_120.out; have hnc44 := NB120_138.out; have hnb45 := NB138_129.out; have hnc45 := NB129_138.out; have hnb46 := NB138_123.out; have hnc46 := NB123_138.out; have hcz47_0 : w43.cell? ⟨gb138, 0, none⟩ = some (.int .i64 0) := lc BK138 0; have hcz47_1 : w43.cell? ⟨gb138, 1, none⟩ = some (.int .i64 0) := lc BK138 1; have hfz47_0 := fz BK138 0; have hfz47_1 := fz BK138 1; have hnb48 := NB129_120.out; have hnc48 := NB120_129.out; have hnb49 := NB129_123.out; have hnc49 := NB123_129.out; have hcz50_0 : w43.cell? ⟨gb129, 0, none⟩ = some (.string t126) := lc BK129 0; have hcz50_1 : w43.cell? ⟨gb129, 1, none⟩ = some (.int .i64 t127) := lc BK129 1; have hcz50_2 : w43.cell? ⟨gb129, 2, none⟩ = some (u130002) := lc BK129 2; have hcz50_3 : w43.cell? ⟨gb129, 3, none⟩ = some (.slice none 0 0) := lc BK129 3; have hfz50_0 := fz BK129 0; have hfz50_1 := fz BK129 1; have hfz50_2 := fz BK129 2; have hfz50_3 := fz BK129 3) | ((with_reducible refine gate_builtin (b := .append) (xs := #[.tmp 40, .tmp 42]) rfl ?_); at_builtin; refine Kd.R_append k35 (w0 := w) w.heap.size rfl (.tmp 40) (.tmp 42) 22 35 (.agg #[(.int .i64 0), (.int .i64 0)]) 16 rfl Try.underlying22 info35 rfl (by decide) (by omega) u130002 x130002_1 (⟨t134, t136⟩ : S35) [.int .i64 t134, .int .i64 t136] (fun k_ => k_ ≠ gb138) (fun _ => False) rfl (by first | (go_simp; done) | (go_simp; rfl)) ?aP (fun _ hk => hk.elim) ?aF ?aO ?aB ?aS ?aL ?_; (case aP => exact k35_mkM _ _ _ (⟨t134, t136⟩ : S35)); (case aB => exact (by repeat (first | (with_reducible first | exact HB.out | apply below_alloc | apply pw_below_drewN | apply below_drew1 | refine below_set ?_ (IsS53.ge HI123.out) | refine below_set ?_ GE120.out | refine below_set ?_ GE129.out | refine below_set ?_ GE138.out) | exact HB.out))); (case aF => exact (fun k_ hk => Kd.freshB (g := gb138) (o := .cells #[.int .i64 t134, .int .i64 t136] 35 (0, 0)) (by (with_reducible repeat (first | refine blk_drewN ?_ _ | refine blk_drew ?_ | refine blk_alloc ?_ _)); refine blk_put (cs := #[.int .i64 t134, .int .i64 0]) ?_ 1 _ rfl; (with_reducible repeat (first | refine blk_drewN ?_ _ | refine blk_drew ?_ | refine blk_alloc ?_ _)); refine blk_put (cs := #[.int .i64 0, .int .i64 0]) ?_ 0 _ rfl; (with_reducible repeat (first | refine blk_drewN ?_ _ | refine blk_drew ?_ | refine blk_alloc ?_ _)); exact BK138.out) k_ hk)); (case aO => exact (by (with_reducible repeat (first | apply Kd.R_alloc | apply Kd.R_drewN | apply Kd.R_drew)); exact Kd.R_mono (Kd.R_far (p := ⟨gb138, 1, none⟩) (Kd.R_far (p := ⟨gb138, 0, none⟩) (Kd.R_mono HO_130002.out (fun k_ hk => (⟨hk, hk.2⟩ : _ ∧ k_ ≠ gb138))) (fun _ hk => hk.2) (.int .i64 t134)) (fun _ hk => hk.2) (.int .i64 t136)) (fun _ hk => hk.1.2))); (case aS => exact (below_size (by repeat (first | (with_reducible first | exact HB.out | apply below_alloc | apply pw_below_drewN | apply below_drew1 | refine below_set ?_ (IsS53.ge HI123.out) | refine below_set ?_ GE120.out | refine below_set ?_ GE129.out | refine below_set ?_ GE138.out) | exact HB.out)))); (case aL => have := LMc40.out; omega); intro v145 w51 ho hb hg hat; rw [← Ny144.out] at ho; replace BK120 := Aside0.mk (blk_grown (g := gb120) (o := .cells #[.string (⟨#[]⟩ : ByteArray), .int .i64 0, .slice none 0 0, .slice none 0 0] 25 (0, 0)) (by (with_reducible repeat (first | refine blk_drewN ?_ _ | refine blk_drew ?_ | refine blk_alloc ?_ _)); refine blk_far ?_ NB120_138.out _; (with_reducible repeat (first | refine blk_drewN ?_ _ | refine blk_drew ?_ | refine blk_alloc ?_ _)); refine blk_far ?_ NB120_138.out _; (with_reducible repeat (first | refine blk_drewN ?_ _ | refine blk_drew ?_ | refine blk_alloc ?_ _)); exact BK120.out) hg (Kd.R_ne HO_130002.out BK120.out (by decide))); replace BK129 := Aside0.mk (blk_grown (g := gb129) (o := .cells #[.string t126, .int .i64 t127, u130002, .slice none 0 0] 25 (0, 0)) (by (with_reducible repeat (first | refine blk_drewN ?_ _ | refine blk_drew ?_ | refine blk_alloc ?_ _)); refine blk_far ?_ NB129_138.out _; (with_reducible repeat (first | refine blk_drewN ?_ _ | refine blk_drew ?_ | refine blk_alloc ?_ _)); refine blk_far ?_ NB129_138.out _; (with_reducible repeat (first | refine blk_drewN ?_ _ | refine blk_drew ?_ | refine blk_alloc ?_ _)); exact BK129.out) hg (Kd.R_ne HO_130002.out BK129.out (by decide))); replace HI123 := Aside0.mk (IsS53.grown (show IsS53 w _ g123 t121 t137 from by repeat (first | (with_reducible first | exact HI123.out | apply IsS53.alloc | apply IsS53.drewN | apply IsS53.drew | apply IsS53.set_1 | refine IsS53.far ?_ NB123_120.out _ | refine IsS53.far ?_ NB123_129.out _ | refine IsS53.far ?_ NB123_138.out _) | exact HI123.out)) hg (IsS53.own_ne HI123.out HO_130002.out (by decide))); replace BK138 := Aside0.mk (blk_grown (g := gb138) (o := .cells #[.int .i64 t134, .int .i64 t136] 35 (0, 0)) (by (with_reducible repeat (first | refine blk_drewN ?_ _ | refine blk_drew ?_ | refine blk_alloc ?_ _)); refine blk_put (cs := #[.int .i64 t134, .int .i64 0]) ?_ 1 _ rfl; (with_reducible repeat (first | refine blk_drewN ?_ _ | refine blk_drew ?_ | refine blk_alloc ?_ _)); refine blk_put (cs := #[.int .i64 0, .int .i64 0]) ?_ 0 _ rfl; (with_reducible repeat (first | refine blk_drewN ?_ _ | refine blk_drew ?_ | refine blk_alloc ?_ _)); exact BK138.out) hg (Kd.R_away HO_130002.out (fun _ hk => hk.2))); replace HB := Aside0.mk (hb); have HO146 := Aside0.mk (ho); clear HO_130002; clear ho hb hg hat; obtain ⟨Ao52, co52, eo52⟩ := Kd.R_slice HO146.out; subst eo52; have hcz53_0 : w51.cell? ⟨gb129, 0, none⟩ = some (.string t126) := lc BK129 0; have hcz53_1 : w51.cell? ⟨gb129, 1, none⟩ = some (.int .i64 t127) := lc BK129 1; have hcz53_2 : w51.cell? ⟨gb129, 2, none⟩ = some (u130002) := lc BK129 2; have hcz53_3 : w51.cell? ⟨gb129, 3, none⟩ = some (.slice none 0 0) := lc BK129 3; have hfz53_0 := fz BK129 0; have hfz53_1 := fz BK129 1; have hfz53_2 := fz BK129 2; have hfz53_3 := fz BK129 3))
       go_roundg k1
       case measure => have := HK1.out; omega
       case rel => exact ⟨(wrap64 (x6_1 - 1)), (t137), (y144), (.slice Ao52 y144.length co52), (by first | rfl | (simp; done) | (simp [*]; done)), H', ⟨by have := HK1.out; omega⟩, ⟨by (with_reducible repeat (first | apply Kd.R_alloc | apply Kd.R_drewN | apply Kd.R_drew)); exact Kd.R_mono (Kd.R_far (p := ⟨gb129, 2, none⟩) (Kd.R_types HO146.out BK129.out (by decide)) (fun _ hk => hk.2) (.slice Ao52 y144.length co52)) (fun _ hk => trivial)⟩, ⟨by (with_reducible repeat (first | refine blk_drewN ?_ _ | refine blk_drew ?_ | refine blk_alloc ?_ _)); refine blk_far ?_ NB120_129.out _; (with_reducible repeat (first | refine blk_drewN ?_ _ | refine blk_drew ?_ | refine blk_alloc ?_ _)); exact BK120.out⟩, ⟨by (with_reducible repeat (first | refine blk_drewN ?_ _ | refine blk_drew ?_ | refine blk_alloc ?_ _)); refine blk_put (cs := #[.string t126, .int .i64 t127, u130002, .slice none 0 0]) ?_ 2 _ rfl; (with_reducible repeat (first | refine blk_drewN ?_ _ | refine blk_drew ?_ | refine blk_alloc ?_ _)); exact BK129.out⟩, ⟨by repeat (first | (with_reducible first | exact HI123.out | apply IsS53.alloc | apply IsS53.drewN | apply IsS53.drew | apply IsS53.set_1 | refine IsS53.far ?_ NB123_120.out _ | refine IsS53.far ?_ NB123_129.out _ | refine IsS53.far ?_ NB123_138.out _) | exact HI123.out)⟩, ⟨by repeat (first | (with_reducible first | exact HB.out | apply below_alloc | apply pw_below_drewN | apply below_drew1 | refine below_set ?_ (IsS53.ge HI123.out) | refine below_set ?_ GE120.out | refine below_set ?_ GE129.out | refine below_set ?_ GE138.out) | exact HB.out)⟩⟩
      ·rw [if_neg c40] at H
       exact absurd H (by simp)
    ·rw [if_neg c19] at H
     have c19b0 : decide (0 < x6_1) = false := decide_eq_false c19
     clear c19
     replace H := Option.bind_eq_some_iff.mp H
     obtain ⟨⟨t147, t148⟩, A540, H⟩ := H
     replace H : (customsmade_Invoice.l1 k1 t147 t121 t148 t126 t127 x130002_1 ([] : List (S33))) = some (r1, r2, r3, r4) := H
     have A54 := Aside0.mk A540
     clear A540
     have H' := Aside0.mk H
     clear H
     go_wp2_with (first | ((with_reducible refine gate_callee (f := 24) rfl ?_); refine goA (some 46) Try.func24 #[.pointer (some ⟨g123, 0, none⟩), .int .i64 6] ?_; (with_reducible refine (customsmade_Source_Next.calls g123 t121 x124001_1 6 t147 t148 w _ ?side1 ?side2 A54.out).mono ?_); (case side1 => repeat (first | (with_reducible first | exact HI123.out | apply IsS53.alloc | apply IsS53.drewN | apply IsS53.drew | apply IsS53.set_1 | refine IsS53.far ?_ NB123_120.out _ | refine IsS53.far ?_ NB123_129.out _) | exact HI123.out)); (case side2 => repeat (first | (with_reducible first | exact HB.out | apply below_alloc | apply pw_below_drewN | apply below_drew1 | refine below_set ?_ (IsS53.ge HI123.out) | refine below_set ?_ GE120.out | refine below_set ?_ GE129.out) | exact HB.out)); rintro e w55 ⟨rfl, hi, hb, hk⟩; refine ⟨_, rfl, ?_⟩; replace HO_130002 := Aside0.mk (Kd.R_mono (Kd.R_keep (IsS53.apart (show IsS53 w _ g123 t121 x124001_1 from by repeat (first | (with_reducible first | exact HI123.out | apply IsS53.alloc | apply IsS53.drewN | apply IsS53.drew | apply IsS53.set_1 | refine IsS53.far ?_ NB123_120.out _ | refine IsS53.far ?_ NB123_129.out _) | exact HI123.out)) (aR HO_130002) (by decide)) hk (fun _ h => h.2)) (fun _ h => h.1)); replace BK120 := Aside0.mk (KeepBut.blk hk (g' := gb120) (o := .cells #[.string (⟨#[]⟩ : ByteArray), .int .i64 0, .slice none 0 0, .slice none 0 0] 25 (0, 0)) (aB BK120) NB120_123.out (by simp)); replace BK129 := Aside0.mk (KeepBut.blk hk (g' := gb129) (o := .cells #[.string t126, .int .i64 t127, u130002, .slice none 0 0] 25 (0, 0)) (aB BK129) NB129_123.out (by simp)); replace HB := Aside0.mk (hb); replace HI123 := Aside0.mk (hi); clear hb hk hi))
     go_loopg [8] k1 (fun kq v8 w' => ∃ (x8_2 : Int) (x124001_2 : Int) (x130003_2 : List (S33)) (u130003 : Value), v8 = .int .i64 x8_2 ∧ Aside0 (customsmade_Invoice.l1 kq x8_2 t121 x124001_2 t126 t127 x130002_1 x130003_2 = some (r1, r2, r3, r4)) ∧ Aside0 (kq ≤ k1) ∧ Aside0 (Kd.R k35 35 w' w.heap.size (fun _ => True) u130002 x130002_1) ∧ Aside0 (Kd.R k33 33 w' w.heap.size (fun _ => True) u130003 x130003_2) ∧ Aside0 (w'.heap[gb120]? = some (.cells #[.string (⟨#[]⟩ : ByteArray), .int .i64 0, (.slice none 0 0), (.slice none 0 0)] 25 (0, 0))) ∧ Aside0 (w'.heap[gb129]? = some (.cells #[.string t126, .int .i64 t127, u130002, u130003] 25 (0, 0))) ∧ Aside0 (IsS53 w w' g123 t121 x124001_2) ∧ Aside0 (Below w.heap.size w w'))
     case atStart => exact ⟨(t147), (t148), (([] : List (S33))), (.slice none 0 0), (by first | rfl | (simp; done) | (simp [*]; done)), H', ⟨Nat.le_refl _⟩, ⟨aR HO_130002⟩, ⟨by first | exact Kd.R_nil _ _ _ _ _ | exact Kd.N_nil _ _ _ _ _ | exact Kd.V_nil _ _ _ _ _ | exact Kd.Q_nil _ _ _ _ _ | exact Kd.S_nil _ _ _ _ _⟩, ⟨aB BK120⟩, ⟨aB BK129⟩, ⟨by repeat (first | (with_reducible first | exact HI123.out | apply IsS53.alloc | apply IsS53.drewN | apply IsS53.drew | apply IsS53.set_1 | refine IsS53.far ?_ NB123_120.out _ | refine IsS53.far ?_ NB123_129.out _) | exact HI123.out)⟩, ⟨by repeat (first | (with_reducible first | exact HB.out | apply below_alloc | apply pw_below_drewN | apply below_drew1 | refine below_set ?_ (IsS53.ge HI123.out) | refine below_set ?_ GE120.out | refine below_set ?_ GE129.out) | exact HB.out)⟩⟩
     case round =>
      clear H'
      try clear c1
      try clear c2
      try clear p2
      try clear c3
      try clear c4
      try clear p6
      try clear c10
      try clear c14
      try clear c15
      try clear c19
      try clear c19b0
      try clear c22
      try clear c22b0
      try clear c22b1
      try clear c22b2
      try clear c24
      try clear c28
      try clear c29
      try clear c30
      try clear c34
      try clear c35
      try clear c40
      try clear c44
      try clear c45
      try clear c46
      try clear c48
      try clear c49
      try clear hcz16_0
      try clear hcz16_1
      try clear hcz16_2
      try clear hcz16_3
      try clear hcz31_0
      try clear hcz31_1
      try clear hcz33_0
      try clear hcz33_1
      try clear hcz36_0
      try clear hcz36_1
      try clear hcz36_2
      try clear hcz36_3
      try clear hcz39_0
      try clear hcz39_1
      try clear hcz39_2
      try clear hcz39_3
      try clear hcz47_0
      try clear hcz47_1
      try clear hcz50_0
      try clear hcz50_1
      try clear hcz50_2
      try clear hcz50_3
      try clear hcz53_0
      try clear hcz53_1
      try clear hcz53_2
      try clear hcz53_3
      try clear hfz16_0
      try clear hfz16_1
      try clear hfz16_2
      try clear hfz16_3
      try clear hfz31_0
      try clear hfz31_1
      try clear hfz33_0
      try clear hfz33_1
      try clear hfz36_0
      try clear hfz36_1
      try clear hfz36_2
      try clear hfz36_3
      try clear hfz39_0
      try clear hfz39_1
      try clear hfz39_2
      try clear hfz39_3
      try clear hfz47_0
      try clear hfz47_1
      try clear hfz50_0
      try clear hfz50_1
      try clear hfz50_2
      try clear hfz50_3
      try clear hfz53_0
      try clear hfz53_1
      try clear hfz53_2
      try clear hfz53_3
      try clear p2
      try clear p6
      obtain ⟨x8_2, x124001_2, x130003_2, u130003, rfl, HA, HK2, HO_130002, HO_130003, BK120, BK129, HI123, HB⟩ := hrel
      cases gk with
      | zero => exact absurd HA.out (by simp [customsmade_Invoice.l1])
      | succ k2 =>
       have H := HA.out
       clear HA
       simp only [customsmade_Invoice.l1] at H
       by_cases c56 : x8_2 > 0
       ·rw [if_pos c56] at H
        have c56b0 : decide (0 < x8_2) = true := decide_eq_true c56
        clear c56
        replace H := Option.bind_eq_some_iff.mp H
        obtain ⟨⟨t149, t150⟩, A570, H⟩ := H
        replace H : ((customsmade_Source_Next.f t121 t150 5000).bind fun bt151 => ((customsmade_Source_Next.f t121 bt151.2 4).bind fun bt153 => ((customsmade_Currency.f bt153.1).bind fun t155 => ((customsmade_Source_Next.f t121 bt153.2 3).bind fun bt156 => (if (wrap64 (1 + bt156.1)) = 3 then ((customsmade_Source_Next.f t121 bt156.2 (x130002_1.length : Int)).bind fun bt159 => (if x130003_2.length < 2932031007402 then (customsmade_Invoice.l1 k2 (wrap64 (x8_2 - 1)) t121 bt159.2 t126 t127 x130002_1 (x130003_2 ++ [(⟨wrap64 (1 + t149), bt151.1, t155, wrap64 (1 + bt156.1), bt159.1⟩ : S33)])) else (none))) else (if x130003_2.length < 2932031007402 then (customsmade_Invoice.l1 k2 (wrap64 (x8_2 - 1)) t121 bt156.2 t126 t127 x130002_1 (x130003_2 ++ [(⟨wrap64 (1 + t149), bt151.1, t155, wrap64 (1 + bt156.1), 0⟩ : S33)])) else (none))))))) = some (r1, r2, r3, r4) := H
        have A57 := Aside0.mk A570
        clear A570
        replace H := Option.bind_eq_some_iff.mp H
        obtain ⟨⟨t151, t152⟩, A580, H⟩ := H
        replace H : ((customsmade_Source_Next.f t121 t152 4).bind fun bt153 => ((customsmade_Currency.f bt153.1).bind fun t155 => ((customsmade_Source_Next.f t121 bt153.2 3).bind fun bt156 => (if (wrap64 (1 + bt156.1)) = 3 then ((customsmade_Source_Next.f t121 bt156.2 (x130002_1.length : Int)).bind fun bt159 => (if x130003_2.length < 2932031007402 then (customsmade_Invoice.l1 k2 (wrap64 (x8_2 - 1)) t121 bt159.2 t126 t127 x130002_1 (x130003_2 ++ [(⟨wrap64 (1 + t149), t151, t155, wrap64 (1 + bt156.1), bt159.1⟩ : S33)])) else (none))) else (if x130003_2.length < 2932031007402 then (customsmade_Invoice.l1 k2 (wrap64 (x8_2 - 1)) t121 bt156.2 t126 t127 x130002_1 (x130003_2 ++ [(⟨wrap64 (1 + t149), t151, t155, wrap64 (1 + bt156.1), 0⟩ : S33)])) else (none)))))) = some (r1, r2, r3, r4) := H
        have A58 := Aside0.mk A580
        clear A580
        replace H := Option.bind_eq_some_iff.mp H
        obtain ⟨⟨t153, t154⟩, A590, H⟩ := H
        replace H : ((customsmade_Currency.f t153).bind fun t155 => ((customsmade_Source_Next.f t121 t154 3).bind fun bt156 => (if (wrap64 (1 + bt156.1)) = 3 then ((customsmade_Source_Next.f t121 bt156.2 (x130002_1.length : Int)).bind fun bt159 => (if x130003_2.length < 2932031007402 then (customsmade_Invoice.l1 k2 (wrap64 (x8_2 - 1)) t121 bt159.2 t126 t127 x130002_1 (x130003_2 ++ [(⟨wrap64 (1 + t149), t151, t155, wrap64 (1 + bt156.1), bt159.1⟩ : S33)])) else (none))) else (if x130003_2.length < 2932031007402 then (customsmade_Invoice.l1 k2 (wrap64 (x8_2 - 1)) t121 bt156.2 t126 t127 x130002_1 (x130003_2 ++ [(⟨wrap64 (1 + t149), t151, t155, wrap64 (1 + bt156.1), 0⟩ : S33)])) else (none))))) = some (r1, r2, r3, r4) := H
        have A59 := Aside0.mk A590
        clear A590
        replace H := Option.bind_eq_some_iff.mp H
        obtain ⟨t155, A600, H⟩ := H
        replace H : ((customsmade_Source_Next.f t121 t154 3).bind fun bt156 => (if (wrap64 (1 + bt156.1)) = 3 then ((customsmade_Source_Next.f t121 bt156.2 (x130002_1.length : Int)).bind fun bt159 => (if x130003_2.length < 2932031007402 then (customsmade_Invoice.l1 k2 (wrap64 (x8_2 - 1)) t121 bt159.2 t126 t127 x130002_1 (x130003_2 ++ [(⟨wrap64 (1 + t149), t151, t155, wrap64 (1 + bt156.1), bt159.1⟩ : S33)])) else (none))) else (if x130003_2.length < 2932031007402 then (customsmade_Invoice.l1 k2 (wrap64 (x8_2 - 1)) t121 bt156.2 t126 t127 x130002_1 (x130003_2 ++ [(⟨wrap64 (1 + t149), t151, t155, wrap64 (1 + bt156.1), 0⟩ : S33)])) else (none)))) = some (r1, r2, r3, r4) := H
        have A60 := Aside0.mk A600
        clear A600
        replace H := Option.bind_eq_some_iff.mp H
        obtain ⟨⟨t156, t157⟩, A610, H⟩ := H
        replace H : (if (wrap64 (1 + t156)) = 3 then ((customsmade_Source_Next.f t121 t157 (x130002_1.length : Int)).bind fun bt159 => (if x130003_2.length < 2932031007402 then (customsmade_Invoice.l1 k2 (wrap64 (x8_2 - 1)) t121 bt159.2 t126 t127 x130002_1 (x130003_2 ++ [(⟨wrap64 (1 + t149), t151, t155, wrap64 (1 + t156), bt159.1⟩ : S33)])) else (none))) else (if x130003_2.length < 2932031007402 then (customsmade_Invoice.l1 k2 (wrap64 (x8_2 - 1)) t121 t157 t126 t127 x130002_1 (x130003_2 ++ [(⟨wrap64 (1 + t149), t151, t155, wrap64 (1 + t156), 0⟩ : S33)])) else (none))) = some (r1, r2, r3, r4) := H
        have A61 := Aside0.mk A610
        clear A610
        by_cases c62 : (wrap64 (1 + t156)) = 3
        ·rw [if_pos c62] at H
         have c62b0 : ((wrap64 (1 + t156)) == 3) = true := beq_iff_eq.mpr c62
         have c62b1 : ((wrap64 (1 + t156)) != 3) = false := bne_eq_false_iff_eq.mpr c62
         clear c62
         replace H := Option.bind_eq_some_iff.mp H
         obtain ⟨⟨t159, t160⟩, A630, H⟩ := H
         replace H : (if x130003_2.length < 2932031007402 then (customsmade_Invoice.l1 k2 (wrap64 (x8_2 - 1)) t121 t160 t126 t127 x130002_1 (x130003_2 ++ [(⟨wrap64 (1 + t149), t151, t155, wrap64 (1 + t156), t159⟩ : S33)])) else (none)) = some (r1, r2, r3, r4) := H
         have A63 := Aside0.mk A630
         clear A630
         by_cases c64 : x130003_2.length < 2932031007402
         ·rw [if_pos c64] at H
          have LMc64 := Aside0.mk c64
          clear c64
          obtain ⟨y161, hy161⟩ : ∃ y_ : List (S33), y_ = (x130003_2 ++ [(⟨wrap64 (1 + t149), t151, t155, wrap64 (1 + t156), t159⟩ : S33)]) := ⟨_, rfl⟩
          replace H : (customsmade_Invoice.l1 k2 (wrap64 (x8_2 - 1)) t121 t160 t126 t127 x130002_1 y161) = some (r1, r2, r3, r4) := by first | (rw [hy161]; with_reducible exact H) | (have H2_ := (Option.bind_some _ _).symm.trans H; rw [hy161]; with_reducible exact H2_) | (have H2_ := (Option.bind_some _ _).symm.trans H; with_reducible exact H2_) | with_reducible exact H | (rw [hy161]; exact H) | exact H
          have Ny161 := Aside0.mk hy161
          clear hy161
          have H' := Aside0.mk H
          clear H
          go_wp2_with (first | ((with_reducible refine gate_callee (f := 24) rfl ?_); refine goA (some 52) Try.func24 #[.pointer (some ⟨g123, 0, none⟩), .int .i64 9] ?_; (with_reducible refine (customsmade_Source_Next.calls g123 t121 x124001_2 9 t149 t150 w _ ?side1 ?side2 A57.out).mono ?_); (case side1 => repeat (first | (with_reducible first | exact HI123.out | apply IsS53.alloc | apply IsS53.drewN | apply IsS53.drew | apply IsS53.set_1 | refine IsS53.far ?_ NB123_120.out _ | refine IsS53.far ?_ NB123_129.out _) | exact HI123.out)); (case side2 => repeat (first | (with_reducible first | exact HB.out | apply below_alloc | apply pw_below_drewN | apply below_drew1 | refine below_set ?_ (IsS53.ge HI123.out) | refine below_set ?_ GE120.out | refine below_set ?_ GE129.out) | exact HB.out)); rintro e w65 ⟨rfl, hi, hb, hk⟩; refine ⟨_, rfl, ?_⟩; replace HO_130002 := Aside0.mk (Kd.R_mono (Kd.R_keep (IsS53.apart (show IsS53 w _ g123 t121 x124001_2 from by repeat (first | (with_reducible first | exact HI123.out | apply IsS53.alloc | apply IsS53.drewN | apply IsS53.drew | apply IsS53.set_1 | refine IsS53.far ?_ NB123_120.out _ | refine IsS53.far ?_ NB123_129.out _) | exact HI123.out)) (aR HO_130002) (by decide)) hk (fun _ h => h.2)) (fun _ h => h.1)); replace HO_130003 := Aside0.mk (Kd.R_mono (Kd.R_keep (IsS53.apart (show IsS53 w _ g123 t121 x124001_2 from by repeat (first | (with_reducible first | exact HI123.out | apply IsS53.alloc | apply IsS53.drewN | apply IsS53.drew | apply IsS53.set_1 | refine IsS53.far ?_ NB123_120.out _ | refine IsS53.far ?_ NB123_129.out _) | exact HI123.out)) (aR HO_130003) (by decide)) hk (fun _ h => h.2)) (fun _ h => h.1)); replace BK120 := Aside0.mk (KeepBut.blk hk (g' := gb120) (o := .cells #[.string (⟨#[]⟩ : ByteArray), .int .i64 0, .slice none 0 0, .slice none 0 0] 25 (0, 0)) (aB BK120) NB120_123.out (by simp)); replace BK129 := Aside0.mk (KeepBut.blk hk (g' := gb129) (o := .cells #[.string t126, .int .i64 t127, u130002, u130003] 25 (0, 0)) (aB BK129) NB129_123.out (by simp)); replace HB := Aside0.mk (hb); replace HI123 := Aside0.mk (hi); clear hb hk hi) | ((with_reducible refine gate_callee (f := 24) rfl ?_); refine goA (some 55) Try.func24 #[.pointer (some ⟨g123, 0, none⟩), .int .i64 5000] ?_; (with_reducible refine (customsmade_Source_Next.calls g123 t121 t150 5000 t151 t152 w _ ?side1 ?side2 A58.out).mono ?_); (case side1 => repeat (first | (with_reducible first | exact HI123.out | apply IsS53.alloc | apply IsS53.drewN | apply IsS53.drew | apply IsS53.set_1 | refine IsS53.far ?_ NB123_120.out _ | refine IsS53.far ?_ NB123_129.out _) | exact HI123.out)); (case side2 => repeat (first | (with_reducible first | exact HB.out | apply below_alloc | apply pw_below_drewN | apply below_drew1 | refine below_set ?_ (IsS53.ge HI123.out) | refine below_set ?_ GE120.out | refine below_set ?_ GE129.out) | exact HB.out)); rintro e w66 ⟨rfl, hi, hb, hk⟩; refine ⟨_, rfl, ?_⟩; replace HO_130002 := Aside0.mk (Kd.R_mono (Kd.R_keep (IsS53.apart (show IsS53 w _ g123 t121 t150 from by repeat (first | (with_reducible first | exact HI123.out | apply IsS53.alloc | apply IsS53.drewN | apply IsS53.drew | apply IsS53.set_1 | refine IsS53.far ?_ NB123_120.out _ | refine IsS53.far ?_ NB123_129.out _) | exact HI123.out)) (aR HO_130002) (by decide)) hk (fun _ h => h.2)) (fun _ h => h.1)); replace HO_130003 := Aside0.mk (Kd.R_mono (Kd.R_keep (IsS53.apart (show IsS53 w _ g123 t121 t150 from by repeat (first | (with_reducible first | exact HI123.out | apply IsS53.alloc | apply IsS53.drewN | apply IsS53.drew | apply IsS53.set_1 | refine IsS53.far ?_ NB123_120.out _ | refine IsS53.far ?_ NB123_129.out _) | exact HI123.out)) (aR HO_130003) (by decide)) hk (fun _ h => h.2)) (fun _ h => h.1)); replace BK120 := Aside0.mk (KeepBut.blk hk (g' := gb120) (o := .cells #[.string (⟨#[]⟩ : ByteArray), .int .i64 0, .slice none 0 0, .slice none 0 0] 25 (0, 0)) (aB BK120) NB120_123.out (by simp)); replace BK129 := Aside0.mk (KeepBut.blk hk (g' := gb129) (o := .cells #[.string t126, .int .i64 t127, u130002, u130003] 25 (0, 0)) (aB BK129) NB129_123.out (by simp)); replace HB := Aside0.mk (hb); replace HI123 := Aside0.mk (hi); clear hb hk hi) | ((with_reducible refine gate_callee (f := 24) rfl ?_); refine goA (some 57) Try.func24 #[.pointer (some ⟨g123, 0, none⟩), .int .i64 4] ?_; (with_reducible refine (customsmade_Source_Next.calls g123 t121 t152 4 t153 t154 w _ ?side1 ?side2 A59.out).mono ?_); (case side1 => repeat (first | (with_reducible first | exact HI123.out | apply IsS53.alloc | apply IsS53.drewN | apply IsS53.drew | apply IsS53.set_1 | refine IsS53.far ?_ NB123_120.out _ | refine IsS53.far ?_ NB123_129.out _) | exact HI123.out)); (case side2 => repeat (first | (with_reducible first | exact HB.out | apply below_alloc | apply pw_below_drewN | apply below_drew1 | refine below_set ?_ (IsS53.ge HI123.out) | refine below_set ?_ GE120.out | refine below_set ?_ GE129.out) | exact HB.out)); rintro e w67 ⟨rfl, hi, hb, hk⟩; refine ⟨_, rfl, ?_⟩; replace HO_130002 := Aside0.mk (Kd.R_mono (Kd.R_keep (IsS53.apart (show IsS53 w _ g123 t121 t152 from by repeat (first | (with_reducible first | exact HI123.out | apply IsS53.alloc | apply IsS53.drewN | apply IsS53.drew | apply IsS53.set_1 | refine IsS53.far ?_ NB123_120.out _ | refine IsS53.far ?_ NB123_129.out _) | exact HI123.out)) (aR HO_130002) (by decide)) hk (fun _ h => h.2)) (fun _ h => h.1)); replace HO_130003 := Aside0.mk (Kd.R_mono (Kd.R_keep (IsS53.apart (show IsS53 w _ g123 t121 t152 from by repeat (first | (with_reducible first | exact HI123.out | apply IsS53.alloc | apply IsS53.drewN | apply IsS53.drew | apply IsS53.set_1 | refine IsS53.far ?_ NB123_120.out _ | refine IsS53.far ?_ NB123_129.out _) | exact HI123.out)) (aR HO_130003) (by decide)) hk (fun _ h => h.2)) (fun _ h => h.1)); replace BK120 := Aside0.mk (KeepBut.blk hk (g' := gb120) (o := .cells #[.string (⟨#[]⟩ : ByteArray), .int .i64 0, .slice none 0 0, .slice none 0 0] 25 (0, 0)) (aB BK120) NB120_123.out (by simp)); replace BK129 := Aside0.mk (KeepBut.blk hk (g' := gb129) (o := .cells #[.string t126, .int .i64 t127, u130002, u130003] 25 (0, 0)) (aB BK129) NB129_123.out (by simp)); replace HB := Aside0.mk (hb); replace HI123 := Aside0.mk (hi); clear hb hk hi) | ((with_reducible refine gate_callee (f := 22) rfl ?_); refine goA (some 58) Try.func22 #[.int .i64 t153] ?_; (with_reducible refine (customsmade_Currency.calls t153 t155 _ A60.out).mono ?_); rintro e w68 ⟨rfl, hb⟩; refine ⟨_, rfl, ?_⟩; have n0_ := rB HO_130002 hb; have n1_ := rB HO_130003 hb; have n2_ := bB BK120 hb; have n3_ := bB BK129 hb; have n4_ := Aside0.mk (IsS53.below (by repeat (first | (with_reducible first | exact HI123.out | apply IsS53.alloc | apply IsS53.drewN | apply IsS53.drew | apply IsS53.set_1 | refine IsS53.far ?_ NB123_120.out _ | refine IsS53.far ?_ NB123_129.out _) | exact HI123.out)) hb); have n5_ := Aside0.mk (below_step (by repeat (first | (with_reducible first | exact HB.out | apply below_alloc | apply pw_below_drewN | apply below_drew1 | refine below_set ?_ (IsS53.ge HI123.out) | refine below_set ?_ GE120.out | refine below_set ?_ GE129.out) | exact HB.out)) hb); clear HO_130002; clear HO_130003; clear BK120; clear BK129; clear HI123; clear HB; have HO_130002 := n0_; have HO_130003 := n1_; have BK120 := n2_; have BK129 := n3_; have HI123 := n4_; have HB := n5_; clear n0_ n1_ n2_ n3_ n4_ n5_; clear hb) | ((with_reducible refine gate_callee (f := 24) rfl ?_); refine goA (some 60) Try.func24 #[.pointer (some ⟨g123, 0, none⟩), .int .i64 3] ?_; (with_reducible refine (customsmade_Source_Next.calls g123 t121 t154 3 t156 t157 w _ ?side1 ?side2 A61.out).mono ?_); (case side1 => repeat (first | (with_reducible first | exact HI123.out | apply IsS53.alloc | apply IsS53.drewN | apply IsS53.drew | apply IsS53.set_1 | refine IsS53.far ?_ NB123_120.out _ | refine IsS53.far ?_ NB123_129.out _) | exact HI123.out)); (case side2 => repeat (first | (with_reducible first | exact HB.out | apply below_alloc | apply pw_below_drewN | apply below_drew1 | refine below_set ?_ (IsS53.ge HI123.out) | refine below_set ?_ GE120.out | refine below_set ?_ GE129.out) | exact HB.out)); rintro e w69 ⟨rfl, hi, hb, hk⟩; refine ⟨_, rfl, ?_⟩; replace HO_130002 := Aside0.mk (Kd.R_mono (Kd.R_keep (IsS53.apart (show IsS53 w _ g123 t121 t154 from by repeat (first | (with_reducible first | exact HI123.out | apply IsS53.alloc | apply IsS53.drewN | apply IsS53.drew | apply IsS53.set_1 | refine IsS53.far ?_ NB123_120.out _ | refine IsS53.far ?_ NB123_129.out _) | exact HI123.out)) (aR HO_130002) (by decide)) hk (fun _ h => h.2)) (fun _ h => h.1)); replace HO_130003 := Aside0.mk (Kd.R_mono (Kd.R_keep (IsS53.apart (show IsS53 w _ g123 t121 t154 from by repeat (first | (with_reducible first | exact HI123.out | apply IsS53.alloc | apply IsS53.drewN | apply IsS53.drew | apply IsS53.set_1 | refine IsS53.far ?_ NB123_120.out _ | refine IsS53.far ?_ NB123_129.out _) | exact HI123.out)) (aR HO_130003) (by decide)) hk (fun _ h => h.2)) (fun _ h => h.1)); replace BK120 := Aside0.mk (KeepBut.blk hk (g' := gb120) (o := .cells #[.string (⟨#[]⟩ : ByteArray), .int .i64 0, .slice none 0 0, .slice none 0 0] 25 (0, 0)) (aB BK120) NB120_123.out (by simp)); replace BK129 := Aside0.mk (KeepBut.blk hk (g' := gb129) (o := .cells #[.string t126, .int .i64 t127, u130002, u130003] 25 (0, 0)) (aB BK129) NB129_123.out (by simp)); replace HB := Aside0.mk (hb); replace HI123 := Aside0.mk (hi); clear hb hk hi) | ((with_reducible refine gate_dst (N := 9) rfl ?_); refine boxA (N := 9) (cs := #[.int .i64 0, .int .i64 0, .string (⟨#[]⟩ : ByteArray), .int .i64 0, .int .i64 0]) (t := 33) ?_; intro gb158 hg w70 hbox hb; have n0_ := rB HO_130002 hb; have n1_ := Aside0.mk (Kd.R_below (Kd.R_elderB (aR HO_130003) gb158 (Nat.le_of_eq hg.symm)) hb); have n2_ := bB BK120 hb; have n3_ := bB BK129 hb; have n4_ := Aside0.mk (IsS53.below (by repeat (first | (with_reducible first | exact HI123.out | apply IsS53.alloc | apply IsS53.drewN | apply IsS53.drew | apply IsS53.set_1 | refine IsS53.far ?_ NB123_120.out _ | refine IsS53.far ?_ NB123_129.out _) | exact HI123.out)) hb); have n5_ := Aside0.mk (below_step (by repeat (first | (with_reducible first | exact HB.out | apply below_alloc | apply pw_below_drewN | apply below_drew1 | refine below_set ?_ (IsS53.ge HI123.out) | refine below_set ?_ GE120.out | refine below_set ?_ GE129.out) | exact HB.out)) hb); have n6_ := Aside0.mk (hbox); have n7_ := Aside0.mk ((by rw [hg]; exact (below_size (by repeat (first | (with_reducible first | exact HB.out | apply below_alloc | apply pw_below_drewN | apply below_drew1 | refine below_set ?_ (IsS53.ge HI123.out) | refine below_set ?_ GE120.out | refine below_set ?_ GE129.out) | exact HB.out))) : w.heap.size ≤ gb158)); have n8_ := Aside0.mk ((by rw [hg]; exact (below_size (by repeat (first | (with_reducible first | exact HB.out | apply below_alloc | apply pw_below_drewN | apply below_drew1 | refine below_set ?_ (IsS53.ge HI123.out) | refine below_set ?_ GE120.out | refine below_set ?_ GE129.out) | exact HB.out))) : w.heap.size ≤ gb158)); have n9_ := nL hg BK120; have n10_ := nG hg BK120; have n11_ := nL hg BK129; have n12_ := nG hg BK129; have n13_ := Aside0.mk ((by rw [hg]; exact Nat.ne_of_lt (IsS53.lt (show IsS53 w _ g123 t121 t157 from by repeat (first | (with_reducible first | exact HI123.out | apply IsS53.alloc | apply IsS53.drewN | apply IsS53.drew | apply IsS53.set_1 | refine IsS53.far ?_ NB123_120.out _ | refine IsS53.far ?_ NB123_129.out _) | exact HI123.out))) : g123 ≠ gb158)); have n14_ := Aside0.mk ((by rw [hg]; exact Nat.ne_of_gt (IsS53.lt (show IsS53 w _ g123 t121 t157 from by repeat (first | (with_reducible first | exact HI123.out | apply IsS53.alloc | apply IsS53.drewN | apply IsS53.drew | apply IsS53.set_1 | refine IsS53.far ?_ NB123_120.out _ | refine IsS53.far ?_ NB123_129.out _) | exact HI123.out))) : gb158 ≠ g123)); clear HO_130002; clear HO_130003; clear BK120; clear BK129; clear HI123; clear HB; have HO_130002 := n0_; have HO_130003 := n1_; have BK120 := n2_; have BK129 := n3_; have HI123 := n4_; have HB := n5_; have BK158 := n6_; have GW158 := n7_; have GE158 := n8_; have NB120_158 := n9_; have NB158_120 := n10_; have NB129_158 := n11_; have NB158_129 := n12_; have NB123_158 := n13_; have NB158_123 := n14_; clear n0_ n1_ n2_ n3_ n4_ n5_ n6_ n7_ n8_ n9_ n10_ n11_ n12_ n13_ n14_; clear hb hbox hg; have hnb71 := NB158_120.out; have hnc71 := NB120_158.out; have hnb72 := NB158_129.out; have hnc72 := NB129_158.out; have hnb73 := NB158_123.out; have hnc73 := NB123_158.out; have hcz74_0 : w70.cell? ⟨gb158, 0, none⟩ = some (.int .i64 0) := lc BK158 0; have hcz74_1 : w70.cell? ⟨gb158, 1, none⟩ = some (.int .i64 0) := lc BK158 1; have hcz74_2 : w70.cell? ⟨gb158, 2, none⟩ = some (.string (⟨#[]⟩ : ByteArray)) := lc BK158 2; have hcz74_3 : w70.cell? ⟨gb158, 3, none⟩ = some (.int .i64 0) := lc BK158 3; have hcz74_4 : w70.cell? ⟨gb158, 4, none⟩ = some (.int .i64 0) := lc BK158 4; have hfz74_0 := fz BK158 0; have hfz74_1 := fz BK158 1; have hfz74_2 := fz BK158 2; have hfz74_3 := fz BK158 3; have hfz74_4 := fz BK158 4; have hnb75 := NB129_120.out; have hnc75 := NB120_129.out; have hnb76 := NB129_123.out; have hnc76 := NB123_129.out; have hcz77_0 : w70.cell? ⟨gb129, 0, none⟩ = some (.string t126) := lc BK129 0; have hcz77_1 : w70.cell? ⟨gb129, 1, none⟩ = some (.int .i64 t127) := lc BK129 1; have hcz77_2 : w70.cell? ⟨gb129, 2, none⟩ = some (u130002) := lc BK129 2; have hcz77_3 : w70.cell? ⟨gb129, 3, none⟩ = some (u130003) := lc BK129 3; have hfz77_0 := fz BK129 0; have hfz77_1 := fz BK129 1; have hfz77_2 := fz BK129 2; have hfz77_3 := fz BK129 3; obtain ⟨Ao78, co78, eo78⟩ := Kd.R_slice HO_130002.out; subst eo78) | ((with_reducible refine gate_callee (f := 24) rfl ?_); refine goA (some 70) Try.func24 #[.pointer (some ⟨g123, 0, none⟩), .int .i64 (x130002_1.length : Int)] ?_; (with_reducible refine (customsmade_Source_Next.calls g123 t121 t157 (x130002_1.length : Int) t159 t160 w _ ?side1 ?side2 A63.out).mono ?_); (case side1 => repeat (first | (with_reducible first | exact HI123.out | apply IsS53.alloc | apply IsS53.drewN | apply IsS53.drew | apply IsS53.set_1 | refine IsS53.far ?_ NB123_120.out _ | refine IsS53.far ?_ NB123_129.out _ | refine IsS53.far ?_ NB123_158.out _) | exact HI123.out)); (case side2 => repeat (first | (with_reducible first | exact HB.out | apply below_alloc | apply pw_below_drewN | apply below_drew1 | refine below_set ?_ (IsS53.ge HI123.out) | refine below_set ?_ GE120.out | refine below_set ?_ GE129.out | refine below_set ?_ GE158.out) | exact HB.out)); rintro e w79 ⟨rfl, hi, hb, hk⟩; refine ⟨_, rfl, ?_⟩; replace HO_130002 := Aside0.mk (Kd.R_mono (Kd.R_keep (IsS53.apart (show IsS53 w _ g123 t121 t157 from by repeat (first | (with_reducible first | exact HI123.out | apply IsS53.alloc | apply IsS53.drewN | apply IsS53.drew | apply IsS53.set_1 | refine IsS53.far ?_ NB123_120.out _ | refine IsS53.far ?_ NB123_129.out _ | refine IsS53.far ?_ NB123_158.out _) | exact HI123.out)) (by (with_reducible repeat (first | apply Kd.R_alloc | apply Kd.R_drewN | apply Kd.R_drew)); exact (Kd.R_mono (Kd.R_far (p := ⟨gb158, 4, none⟩) (Kd.R_far (p := ⟨gb158, 3, none⟩) (Kd.R_far (p := ⟨gb158, 2, none⟩) (Kd.R_far (p := ⟨gb158, 1, none⟩) (Kd.R_far (p := ⟨gb158, 0, none⟩) (Kd.R_types HO_130002.out BK158.out (by decide)) (fun _ hk => hk.2) (.int .i64 (wrap64 (1 + t149)))) (fun _ hk => hk.2) (.int .i64 t151)) (fun _ hk => hk.2) (.string t155)) (fun _ hk => hk.2) (.int .i64 (wrap64 (1 + t156)))) (fun _ hk => hk.2) (.int .i64 0)) (fun _ h_ => h_.1))) (by decide)) hk (fun _ h => h.2)) (fun _ h => h.1)); replace HO_130003 := Aside0.mk (Kd.R_mono (Kd.R_keep (IsS53.apart (show IsS53 w _ g123 t121 t157 from by repeat (first | (with_reducible first | exact HI123.out | apply IsS53.alloc | apply IsS53.drewN | apply IsS53.drew | apply IsS53.set_1 | refine IsS53.far ?_ NB123_120.out _ | refine IsS53.far ?_ NB123_129.out _ | refine IsS53.far ?_ NB123_158.out _) | exact HI123.out)) (by (with_reducible repeat (first | apply Kd.R_alloc | apply Kd.R_drewN | apply Kd.R_drew)); exact (Kd.R_mono (Kd.R_far (p := ⟨gb158, 4, none⟩) (Kd.R_far (p := ⟨gb158, 3, none⟩) (Kd.R_far (p := ⟨gb158, 2, none⟩) (Kd.R_far (p := ⟨gb158, 1, none⟩) (Kd.R_far (p := ⟨gb158, 0, none⟩) (Kd.R_mono HO_130003.out (fun k_ hk => (⟨hk, hk.2⟩ : _ ∧ k_ ≠ gb158))) (fun _ hk => hk.2) (.int .i64 (wrap64 (1 + t149)))) (fun _ hk => hk.2) (.int .i64 t151)) (fun _ hk => hk.2) (.string t155)) (fun _ hk => hk.2) (.int .i64 (wrap64 (1 + t156)))) (fun _ hk => hk.2) (.int .i64 0)) (fun _ h_ => h_.1))) (by decide)) hk (fun _ h => h.2)) (fun _ h => h.1)); replace BK120 := Aside0.mk (KeepBut.blk hk (g' := gb120) (o := .cells #[.string (⟨#[]⟩ : ByteArray), .int .i64 0, .slice none 0 0, .slice none 0 0] 25 (0, 0)) (by (with_reducible repeat (first | refine blk_drewN ?_ _ | refine blk_drew ?_ | refine blk_alloc ?_ _)); refine blk_far ?_ NB120_158.out _; (with_reducible repeat (first | refine blk_drewN ?_ _ | refine blk_drew ?_ | refine blk_alloc ?_ _)); refine blk_far ?_ NB120_158.out _; (with_reducible repeat (first | refine blk_drewN ?_ _ | refine blk_drew ?_ | refine blk_alloc ?_ _)); refine blk_far ?_ NB120_158.out _; (with_reducible repeat (first | refine blk_drewN ?_ _ | refine blk_drew ?_ | refine blk_alloc ?_ _)); refine blk_far ?_ NB120_158.out _; (with_reducible repeat (first | refine blk_drewN ?_ _ | refine blk_drew ?_ | refine blk_alloc ?_ _)); refine blk_far ?_ NB120_158.out _; (with_reducible repeat (first | refine blk_drewN ?_ _ | refine blk_drew ?_ | refine blk_alloc ?_ _)); exact BK120.out) NB120_123.out (by simp)); replace BK129 := Aside0.mk (KeepBut.blk hk (g' := gb129) (o := .cells #[.string t126, .int .i64 t127, .slice Ao78 x130002_1.length co78, u130003] 25 (0, 0)) (by (with_reducible repeat (first | refine blk_drewN ?_ _ | refine blk_drew ?_ | refine blk_alloc ?_ _)); refine blk_far ?_ NB129_158.out _; (with_reducible repeat (first | refine blk_drewN ?_ _ | refine blk_drew ?_ | refine blk_alloc ?_ _)); refine blk_far ?_ NB129_158.out _; (with_reducible repeat (first | refine blk_drewN ?_ _ | refine blk_drew ?_ | refine blk_alloc ?_ _)); refine blk_far ?_ NB129_158.out _; (with_reducible repeat (first | refine blk_drewN ?_ _ | refine blk_drew ?_ | refine blk_alloc ?_ _)); refine blk_far ?_ NB129_158.out _; (with_reducible repeat (first | refine blk_drewN ?_ _ | refine blk_drew ?_ | refine blk_alloc ?_ _)); refine blk_far ?_ NB129_158.out _; (with_reducible repeat (first | refine blk_drewN ?_ _ | refine blk_drew ?_ | refine blk_alloc ?_ _)); exact BK129.out) NB129_123.out (by simp)); replace BK158 := Aside0.mk (KeepBut.blk hk (g' := gb158) (o := .cells #[.int .i64 (wrap64 (1 + t149)), .int .i64 t151, .string t155, .int .i64 (wrap64 (1 + t156)), .int .i64 0] 33 (0, 0)) (by (with_reducible repeat (first | refine blk_drewN ?_ _ | refine blk_drew ?_ | refine blk_alloc ?_ _)); refine blk_put (cs := #[.int .i64 (wrap64 (1 + t149)), .int .i64 t151, .string t155, .int .i64 (wrap64 (1 + t156)), .int .i64 0]) ?_ 4 _ rfl; (with_reducible repeat (first | refine blk_drewN ?_ _ | refine blk_drew ?_ | refine blk_alloc ?_ _)); refine blk_put (cs := #[.int .i64 (wrap64 (1 + t149)), .int .i64 t151, .string t155, .int .i64 0, .int .i64 0]) ?_ 3 _ rfl; (with_reducible repeat (first | refine blk_drewN ?_ _ | refine blk_drew ?_ | refine blk_alloc ?_ _)); refine blk_put (cs := #[.int .i64 (wrap64 (1 + t149)), .int .i64 t151, .string (⟨#[]⟩ : ByteArray), .int .i64 0, .int .i64 0]) ?_ 2 _ rfl; (with_reducible repeat (first | refine blk_drewN ?_ _ | refine blk_drew ?_ | refine blk_alloc ?_ _)); refine blk_put (cs := #[.int .i64 (wrap64 (1 + t149)), .int .i64 0, .string (⟨#[]⟩ : ByteArray), .int .i64 0, .int .i64 0]) ?_ 1 _ rfl; (with_reducible repeat (first | refine blk_drewN ?_ _ | refine blk_drew ?_ | refine blk_alloc ?_ _)); refine blk_put (cs := #[.int .i64 0, .int .i64 0, .string (⟨#[]⟩ : ByteArray), .int .i64 0, .int .i64 0]) ?_ 0 _ rfl; (with_reducible repeat (first | refine blk_drewN ?_ _ | refine blk_drew ?_ | refine blk_alloc ?_ _)); exact BK158.out) NB158_123.out (by simp)); replace HB := Aside0.mk (hb); replace HI123 := Aside0.mk (hi); have hcz80_0 : w79.cell? ⟨gb158, 0, none⟩ = some (.int .i64 (wrap64 (1 + t149))) := lc BK158 0; have hcz80_1 : w79.cell? ⟨gb158, 1, none⟩ = some (.int .i64 t151) := lc BK158 1; have hcz80_2 : w79.cell? ⟨gb158, 2, none⟩ = some (.string t155) := lc BK158 2; have hcz80_3 : w79.cell? ⟨gb158, 3, none⟩ = some (.int .i64 (wrap64 (1 + t156))) := lc BK158 3; have hcz80_4 : w79.cell? ⟨gb158, 4, none⟩ = some (.int .i64 0) := lc BK158 4; have hfz80_0 := fz BK158 0; have hfz80_1 := fz BK158 1; have hfz80_2 := fz BK158 2; have hfz80_3 := fz BK158 3; have hfz80_4 := fz BK158 4; have hcz81_0 : w79.cell? ⟨gb129, 0, none⟩ = some (.string t126) := lc BK129 0; have hcz81_1 : w79.cell? ⟨gb129, 1, none⟩ = some (.int .i64 t127) := lc BK129 1; have hcz81_2 : w79.cell? ⟨gb129, 2, none⟩ = some (.slice Ao78 x130002_1.length co78) := lc BK129 2; have hcz81_3 : w79.cell? ⟨gb129, 3, none⟩ = some (u130003) := lc BK129 3; have hfz81_0 := fz BK129 0; have hfz81_1 := fz BK129 1; have hfz81_2 := fz BK129 2; have hfz81_3 := fz BK129 3; clear hb hk hi) | ((with_reducible refine gate_builtin (b := .append) (xs := #[.tmp 73, .tmp 75]) rfl ?_); at_builtin; refine Kd.R_append k33 (w0 := w) w.heap.size rfl (.tmp 73) (.tmp 75) 23 33 (.agg #[(.int .i64 0), (.int .i64 0), (.string ⟨#[]⟩), (.int .i64 0), (.int .i64 0)]) 48 rfl Try.underlying23 info33 rfl (by decide) (by omega) u130003 x130003_2 (⟨wrap64 (1 + t149), t151, t155, wrap64 (1 + t156), t159⟩ : S33) [.int .i64 (wrap64 (1 + t149)), .int .i64 t151, .string t155, .int .i64 (wrap64 (1 + t156)), .int .i64 t159] (fun k_ => k_ ≠ gb158) (fun _ => False) rfl (by first | (go_simp; done) | (go_simp; rfl)) ?aP (fun _ hk => hk.elim) ?aF ?aO ?aB ?aS ?aL ?_; (case aP => exact k33_mkM _ _ _ (⟨wrap64 (1 + t149), t151, t155, wrap64 (1 + t156), t159⟩ : S33)); (case aB => exact (by repeat (first | (with_reducible first | exact HB.out | apply below_alloc | apply pw_below_drewN | apply below_drew1 | refine below_set ?_ (IsS53.ge HI123.out) | refine below_set ?_ GE120.out | refine below_set ?_ GE129.out | refine below_set ?_ GE158.out) | exact HB.out))); (case aF => exact (fun k_ hk => Kd.freshB (g := gb158) (o := .cells #[.int .i64 (wrap64 (1 + t149)), .int .i64 t151, .string t155, .int .i64 (wrap64 (1 + t156)), .int .i64 t159] 33 (0, 0)) (by (with_reducible repeat (first | refine blk_drewN ?_ _ | refine blk_drew ?_ | refine blk_alloc ?_ _)); refine blk_put (cs := #[.int .i64 (wrap64 (1 + t149)), .int .i64 t151, .string t155, .int .i64 (wrap64 (1 + t156)), .int .i64 0]) ?_ 4 _ rfl; (with_reducible repeat (first | refine blk_drewN ?_ _ | refine blk_drew ?_ | refine blk_alloc ?_ _)); exact BK158.out) k_ hk)); (case aO => exact (by (with_reducible repeat (first | apply Kd.R_alloc | apply Kd.R_drewN | apply Kd.R_drew)); exact Kd.R_mono (Kd.R_far (p := ⟨gb158, 4, none⟩) (Kd.R_mono HO_130003.out (fun k_ hk => (⟨hk, hk.2⟩ : _ ∧ k_ ≠ gb158))) (fun _ hk => hk.2) (.int .i64 t159)) (fun _ hk => hk.1.2))); (case aS => exact (below_size (by repeat (first | (with_reducible first | exact HB.out | apply below_alloc | apply pw_below_drewN | apply below_drew1 | refine below_set ?_ (IsS53.ge HI123.out) | refine below_set ?_ GE120.out | refine below_set ?_ GE129.out | refine below_set ?_ GE158.out) | exact HB.out)))); (case aL => have := LMc64.out; omega); intro v162 w82 ho hb hg hat; rw [← Ny161.out] at ho; replace HO_130002 := Aside0.mk (Kd.R_over' (by (with_reducible repeat (first | apply Kd.R_alloc | apply Kd.R_drewN | apply Kd.R_drew)); exact (Kd.R_mono (Kd.R_far (p := ⟨gb158, 4, none⟩) (Kd.R_types HO_130002.out BK158.out (by decide)) (fun _ hk => hk.2) (.int .i64 t159)) (fun _ h_ => h_.1))) (Kd.R_typed (by (with_reducible repeat (first | apply Kd.R_alloc | apply Kd.R_drewN | apply Kd.R_drew)); exact (Kd.R_mono (Kd.R_far (p := ⟨gb158, 4, none⟩) (Kd.R_mono HO_130003.out (fun k_ hk => (⟨hk, hk.2⟩ : _ ∧ k_ ≠ gb158))) (fun _ hk => hk.2) (.int .i64 t159)) (fun _ h_ => h_.1)))) (by decide) hg); replace BK120 := Aside0.mk (blk_grown (g := gb120) (o := .cells #[.string (⟨#[]⟩ : ByteArray), .int .i64 0, .slice none 0 0, .slice none 0 0] 25 (0, 0)) (by (with_reducible repeat (first | refine blk_drewN ?_ _ | refine blk_drew ?_ | refine blk_alloc ?_ _)); refine blk_far ?_ NB120_158.out _; (with_reducible repeat (first | refine blk_drewN ?_ _ | refine blk_drew ?_ | refine blk_alloc ?_ _)); exact BK120.out) hg (Kd.R_ne HO_130003.out BK120.out (by decide))); replace BK129 := Aside0.mk (blk_grown (g := gb129) (o := .cells #[.string t126, .int .i64 t127, .slice Ao78 x130002_1.length co78, u130003] 25 (0, 0)) (by (with_reducible repeat (first | refine blk_drewN ?_ _ | refine blk_drew ?_ | refine blk_alloc ?_ _)); refine blk_far ?_ NB129_158.out _; (with_reducible repeat (first | refine blk_drewN ?_ _ | refine blk_drew ?_ | refine blk_alloc ?_ _)); exact BK129.out) hg (Kd.R_ne HO_130003.out BK129.out (by decide))); replace HI123 := Aside0.mk (IsS53.grown (show IsS53 w _ g123 t121 t160 from by repeat (first | (with_reducible first | exact HI123.out | apply IsS53.alloc | apply IsS53.drewN | apply IsS53.drew | apply IsS53.set_1 | refine IsS53.far ?_ NB123_120.out _ | refine IsS53.far ?_ NB123_129.out _ | refine IsS53.far ?_ NB123_158.out _) | exact HI123.out)) hg (IsS53.own_ne HI123.out HO_130003.out (by decide))); replace BK158 := Aside0.mk (blk_grown (g := gb158) (o := .cells #[.int .i64 (wrap64 (1 + t149)), .int .i64 t151, .string t155, .int .i64 (wrap64 (1 + t156)), .int .i64 t159] 33 (0, 0)) (by (with_reducible repeat (first | refine blk_drewN ?_ _ | refine blk_drew ?_ | refine blk_alloc ?_ _)); refine blk_put (cs := #[.int .i64 (wrap64 (1 + t149)), .int .i64 t151, .string t155, .int .i64 (wrap64 (1 + t156)), .int .i64 0]) ?_ 4 _ rfl; (with_reducible repeat (first | refine blk_drewN ?_ _ | refine blk_drew ?_ | refine blk_alloc ?_ _)); exact BK158.out) hg (Kd.R_away HO_130003.out (fun _ hk => hk.2))); replace HB := Aside0.mk (hb); have HO163 := Aside0.mk (ho); clear HO_130003; clear ho hb hg hat; obtain ⟨Ao83, co83, eo83⟩ := Kd.R_slice HO163.out; subst eo83; have hcz84_0 : w82.cell? ⟨gb129, 0, none⟩ = some (.string t126) := lc BK129 0; have hcz84_1 : w82.cell? ⟨gb129, 1, none⟩ = some (.int .i64 t127) := lc BK129 1; have hcz84_2 : w82.cell? ⟨gb129, 2, none⟩ = some (.slice Ao78 x130002_1.length co78) := lc BK129 2; have hcz84_3 : w82.cell? ⟨gb129, 3, none⟩ = some (u130003) := lc BK129 3; have hfz84_0 := fz BK129 0; have hfz84_1 := fz BK129 1; have hfz84_2 := fz BK129 2; have hfz84_3 := fz BK129 3))
          go_roundg k2
          case measure => have := HK1.out; have := HK2.out; omega
          case rel => exact ⟨(wrap64 (x8_2 - 1)), (t160), (y161), (.slice Ao83 y161.length co83), (by first | rfl | (simp; done) | (simp [*]; done)), H', ⟨by have := HK1.out; have := HK2.out; omega⟩, ⟨by (with_reducible repeat (first | apply Kd.R_alloc | apply Kd.R_drewN | apply Kd.R_drew)); exact Kd.R_mono (Kd.R_far (p := ⟨gb129, 3, none⟩) (Kd.R_types HO_130002.out BK129.out (by decide)) (fun _ hk => hk.2) (.slice Ao83 y161.length co83)) (fun _ hk => trivial)⟩, ⟨by (with_reducible repeat (first | apply Kd.R_alloc | apply Kd.R_drewN | apply Kd.R_drew)); exact Kd.R_mono (Kd.R_far (p := ⟨gb129, 3, none⟩) (Kd.R_types HO163.out BK129.out (by decide)) (fun _ hk => hk.2) (.slice Ao83 y161.length co83)) (fun _ hk => trivial)⟩, ⟨by (with_reducible repeat (first | refine blk_drewN ?_ _ | refine blk_drew ?_ | refine blk_alloc ?_ _)); refine blk_far ?_ NB120_129.out _; (with_reducible repeat (first | refine blk_drewN ?_ _ | refine blk_drew ?_ | refine blk_alloc ?_ _)); exact BK120.out⟩, ⟨by (with_reducible repeat (first | refine blk_drewN ?_ _ | refine blk_drew ?_ | refine blk_alloc ?_ _)); refine blk_put (cs := #[.string t126, .int .i64 t127, .slice Ao78 x130002_1.length co78, u130003]) ?_ 3 _ rfl; (with_reducible repeat (first | refine blk_drewN ?_ _ | refine blk_drew ?_ | refine blk_alloc ?_ _)); exact BK129.out⟩, ⟨by repeat (first | (with_reducible first | exact HI123.out | apply IsS53.alloc | apply IsS53.drewN | apply IsS53.drew | apply IsS53.set_1 | refine IsS53.far ?_ NB123_120.out _ | refine IsS53.far ?_ NB123_129.out _ | refine IsS53.far ?_ NB123_158.out _) | exact HI123.out)⟩, ⟨by repeat (first | (with_reducible first | exact HB.out | apply below_alloc | apply pw_below_drewN | apply below_drew1 | refine below_set ?_ (IsS53.ge HI123.out) | refine below_set ?_ GE120.out | refine below_set ?_ GE129.out | refine below_set ?_ GE158.out) | exact HB.out)⟩⟩
         ·rw [if_neg c64] at H
          exact absurd H (by simp)
        ·rw [if_neg c62] at H
         have c62b0 : ((wrap64 (1 + t156)) == 3) = false := beq_eq_false_iff_ne.mpr c62
         have c62b1 : ((wrap64 (1 + t156)) != 3) = true := bne_iff_ne.mpr c62
         by_cases c85 : x130003_2.length < 2932031007402
         ·rw [if_pos c85] at H
          have LMc85 := Aside0.mk c85
          clear c85
          obtain ⟨y164, hy164⟩ : ∃ y_ : List (S33), y_ = (x130003_2 ++ [(⟨wrap64 (1 + t149), t151, t155, wrap64 (1 + t156), 0⟩ : S33)]) := ⟨_, rfl⟩
          replace H : (customsmade_Invoice.l1 k2 (wrap64 (x8_2 - 1)) t121 t157 t126 t127 x130002_1 y164) = some (r1, r2, r3, r4) := by first | (rw [hy164]; with_reducible exact H) | (have H2_ := (Option.bind_some _ _).symm.trans H; rw [hy164]; with_reducible exact H2_) | (have H2_ := (Option.bind_some _ _).symm.trans H; with_reducible exact H2_) | with_reducible exact H | (rw [hy164]; exact H) | exact H
          have Ny164 := Aside0.mk hy164
          clear hy164
          have H' := Aside0.mk H
          clear H
          go_wp2_with (first | ((with_reducible refine gate_callee (f := 24) rfl ?_); refine goA (some 52) Try.func24 #[.pointer (some ⟨g123, 0, none⟩), .int .i64 9] ?_; (with_reducible refine (customsmade_Source_Next.calls g123 t121 x124001_2 9 t149 t150 w _ ?side1 ?side2 A57.out).mono ?_); (case side1 => repeat (first | (with_reducible first | exact HI123.out | apply IsS53.alloc | apply IsS53.drewN | apply IsS53.drew | apply IsS53.set_1 | refine IsS53.far ?_ NB123_120.out _ | refine IsS53.far ?_ NB123_129.out _) | exact HI123.out)); (case side2 => repeat (first | (with_reducible first | exact HB.out | apply below_alloc | apply pw_below_drewN | apply below_drew1 | refine below_set ?_ (IsS53.ge HI123.out) | refine below_set ?_ GE120.out | refine below_set ?_ GE129.out) | exact HB.out)); rintro e w86 ⟨rfl, hi, hb, hk⟩; refine ⟨_, rfl, ?_⟩; replace HO_130002 := Aside0.mk (Kd.R_mono (Kd.R_keep (IsS53.apart (show IsS53 w _ g123 t121 x124001_2 from by repeat (first | (with_reducible first | exact HI123.out | apply IsS53.alloc | apply IsS53.drewN | apply IsS53.drew | apply IsS53.set_1 | refine IsS53.far ?_ NB123_120.out _ | refine IsS53.far ?_ NB123_129.out _) | exact HI123.out)) (aR HO_130002) (by decide)) hk (fun _ h => h.2)) (fun _ h => h.1)); replace HO_130003 := Aside0.mk (Kd.R_mono (Kd.R_keep (IsS53.apart (show IsS53 w _ g123 t121 x124001_2 from by repeat (first | (with_reducible first | exact HI123.out | apply IsS53.alloc | apply IsS53.drewN | apply IsS53.drew | apply IsS53.set_1 | refine IsS53.far ?_ NB123_120.out _ | refine IsS53.far ?_ NB123_129.out _) | exact HI123.out)) (aR HO_130003) (by decide)) hk (fun _ h => h.2)) (fun _ h => h.1)); replace BK120 := Aside0.mk (KeepBut.blk hk (g' := gb120) (o := .cells #[.string (⟨#[]⟩ : ByteArray), .int .i64 0, .slice none 0 0, .slice none 0 0] 25 (0, 0)) (aB BK120) NB120_123.out (by simp)); replace BK129 := Aside0.mk (KeepBut.blk hk (g' := gb129) (o := .cells #[.string t126, .int .i64 t127, u130002, u130003] 25 (0, 0)) (aB BK129) NB129_123.out (by simp)); replace HB := Aside0.mk (hb); replace HI123 := Aside0.mk (hi); clear hb hk hi) | ((with_reducible refine gate_callee (f := 24) rfl ?_); refine goA (some 55) Try.func24 #[.pointer (some ⟨g123, 0, none⟩), .int .i64 5000] ?_; (with_reducible refine (customsmade_Source_Next.calls g123 t121 t150 5000 t151 t152 w _ ?side1 ?side2 A58.out).mono ?_); (case side1 => repeat (first | (with_reducible first | exact HI123.out | apply IsS53.alloc | apply IsS53.drewN | apply IsS53.drew | apply IsS53.set_1 | refine IsS53.far ?_ NB123_120.out _ | refine IsS53.far ?_ NB123_129.out _) | exact HI123.out)); (case side2 => repeat (first | (with_reducible first | exact HB.out | apply below_alloc | apply pw_below_drewN | apply below_drew1 | refine below_set ?_ (IsS53.ge HI123.out) | refine below_set ?_ GE120.out | refine below_set ?_ GE129.out) | exact HB.out)); rintro e w87 ⟨rfl, hi, hb, hk⟩; refine ⟨_, rfl, ?_⟩; replace HO_130002 := Aside0.mk (Kd.R_mono (Kd.R_keep (IsS53.apart (show IsS53 w _ g123 t121 t150 from by repeat (first | (with_reducible first | exact HI123.out | apply IsS53.alloc | apply IsS53.drewN | apply IsS53.drew | apply IsS53.set_1 | refine IsS53.far ?_ NB123_120.out _ | refine IsS53.far ?_ NB123_129.out _) | exact HI123.out)) (aR HO_130002) (by decide)) hk (fun _ h => h.2)) (fun _ h => h.1)); replace HO_130003 := Aside0.mk (Kd.R_mono (Kd.R_keep (IsS53.apart (show IsS53 w _ g123 t121 t150 from by repeat (first | (with_reducible first | exact HI123.out | apply IsS53.alloc | apply IsS53.drewN | apply IsS53.drew | apply IsS53.set_1 | refine IsS53.far ?_ NB123_120.out _ | refine IsS53.far ?_ NB123_129.out _) | exact HI123.out)) (aR HO_130003) (by decide)) hk (fun _ h => h.2)) (fun _ h => h.1)); replace BK120 := Aside0.mk (KeepBut.blk hk (g' := gb120) (o := .cells #[.string (⟨#[]⟩ : ByteArray), .int .i64 0, .slice none 0 0, .slice none 0 0] 25 (0, 0)) (aB BK120) NB120_123.out (by simp)); replace BK129 := Aside0.mk (KeepBut.blk hk (g' := gb129) (o := .cells #[.string t126, .int .i64 t127, u130002, u130003] 25 (0, 0)) (aB BK129) NB129_123.out (by simp)); replace HB := Aside0.mk (hb); replace HI123 := Aside0.mk (hi); clear hb hk hi) | ((with_reducible refine gate_callee (f := 24) rfl ?_); refine goA (some 57) Try.func24 #[.pointer (some ⟨g123, 0, none⟩), .int .i64 4] ?_; (with_reducible refine (customsmade_Source_Next.calls g123 t121 t152 4 t153 t154 w _ ?side1 ?side2 A59.out).mono ?_); (case side1 => repeat (first | (with_reducible first | exact HI123.out | apply IsS53.alloc | apply IsS53.drewN | apply IsS53.drew | apply IsS53.set_1 | refine IsS53.far ?_ NB123_120.out _ | refine IsS53.far ?_ NB123_129.out _) | exact HI123.out)); (case side2 => repeat (first | (with_reducible first | exact HB.out | apply below_alloc | apply pw_below_drewN | apply below_drew1 | refine below_set ?_ (IsS53.ge HI123.out) | refine below_set ?_ GE120.out | refine below_set ?_ GE129.out) | exact HB.out)); rintro e w88 ⟨rfl, hi, hb, hk⟩; refine ⟨_, rfl, ?_⟩; replace HO_130002 := Aside0.mk (Kd.R_mono (Kd.R_keep (IsS53.apart (show IsS53 w _ g123 t121 t152 from by repeat (first | (with_reducible first | exact HI123.out | apply IsS53.alloc | apply IsS53.drewN | apply IsS53.drew | apply IsS53.set_1 | refine IsS53.far ?_ NB123_120.out _ | refine IsS53.far ?_ NB123_129.out _) | exact HI123.out)) (aR HO_130002) (by decide)) hk (fun _ h => h.2)) (fun _ h => h.1)); replace HO_130003 := Aside0.mk (Kd.R_mono (Kd.R_keep (IsS53.apart (show IsS53 w _ g123 t121 t152 from by repeat (first | (with_reducible first | exact HI123.out | apply IsS53.alloc | apply IsS53.drewN | apply IsS53.drew | apply IsS53.set_1 | refine IsS53.far ?_ NB123_120.out _ | refine IsS53.far ?_ NB123_129.out _) | exact HI123.out)) (aR HO_130003) (by decide)) hk (fun _ h => h.2)) (fun _ h => h.1)); replace BK120 := Aside0.mk (KeepBut.blk hk (g' := gb120) (o := .cells #[.string (⟨#[]⟩ : ByteArray), .int .i64 0, .slice none 0 0, .slice none 0 0] 25 (0, 0)) (aB BK120) NB120_123.out (by simp)); replace BK129 := Aside0.mk (KeepBut.blk hk (g' := gb129) (o := .cells #[.string t126, .int .i64 t127, u130002, u130003] 25 (0, 0)) (aB BK129) NB129_123.out (by simp)); replace HB := Aside0.mk (hb); replace HI123 := Aside0.mk (hi); clear hb hk hi) | ((with_reducible refine gate_callee (f := 22) rfl ?_); refine goA (some 58) Try.func22 #[.int .i64 t153] ?_; (with_reducible refine (customsmade_Currency.calls t153 t155 _ A60.out).mono ?_); rintro e w89 ⟨rfl, hb⟩; refine ⟨_, rfl, ?_⟩; have n0_ := rB HO_130002 hb; have n1_ := rB HO_130003 hb; have n2_ := bB BK120 hb; have n3_ := bB BK129 hb; have n4_ := Aside0.mk (IsS53.below (by repeat (first | (with_reducible first | exact HI123.out | apply IsS53.alloc | apply IsS53.drewN | apply IsS53.drew | apply IsS53.set_1 | refine IsS53.far ?_ NB123_120.out _ | refine IsS53.far ?_ NB123_129.out _) | exact HI123.out)) hb); have n5_ := Aside0.mk (below_step (by repeat (first | (with_reducible first | exact HB.out | apply below_alloc | apply pw_below_drewN | apply below_drew1 | refine below_set ?_ (IsS53.ge HI123.out) | refine below_set ?_ GE120.out | refine below_set ?_ GE129.out) | exact HB.out)) hb); clear HO_130002; clear HO_130003; clear BK120; clear BK129; clear HI123; clear HB; have HO_130002 := n0_; have HO_130003 := n1_; have BK120 := n2_; have BK129 := n3_; have HI123 := n4_; have HB := n5_; clear n0_ n1_ n2_ n3_ n4_ n5_; clear hb) | ((with_reducible refine gate_callee (f := 24) rfl ?_); refine goA (some 60) Try.func24 #[.pointer (some ⟨g123, 0, none⟩), .int .i64 3] ?_; (with_reducible refine (customsmade_Source_Next.calls g123 t121 t154 3 t156 t157 w _ ?side1 ?side2 A61.out).mono ?_); (case side1 => repeat (first | (with_reducible first | exact HI123.out | apply IsS53.alloc | apply IsS53.drewN | apply IsS53.drew | apply IsS53.set_1 | refine IsS53.far ?_ NB123_120.out _ | refine IsS53.far ?_ NB123_129.out _) | exact HI123.out)); (case side2 => repeat (first | (with_reducible first | exact HB.out | apply below_alloc | apply pw_below_drewN | apply below_drew1 | refine below_set ?_ (IsS53.ge HI123.out) | refine below_set ?_ GE120.out | refine below_set ?_ GE129.out) | exact HB.out)); rintro e w90 ⟨rfl, hi, hb, hk⟩; refine ⟨_, rfl, ?_⟩; replace HO_130002 := Aside0.mk (Kd.R_mono (Kd.R_keep (IsS53.apart (show IsS53 w _ g123 t121 t154 from by repeat (first | (with_reducible first | exact HI123.out | apply IsS53.alloc | apply IsS53.drewN | apply IsS53.drew | apply IsS53.set_1 | refine IsS53.far ?_ NB123_120.out _ | refine IsS53.far ?_ NB123_129.out _) | exact HI123.out)) (aR HO_130002) (by decide)) hk (fun _ h => h.2)) (fun _ h => h.1)); replace HO_130003 := Aside0.mk (Kd.R_mono (Kd.R_keep (IsS53.apart (show IsS53 w _ g123 t121 t154 from by repeat (first | (with_reducible first | exact HI123.out | apply IsS53.alloc | apply IsS53.drewN | apply IsS53.drew | apply IsS53.set_1 | refine IsS53.far ?_ NB123_120.out _ | refine IsS53.far ?_ NB123_129.out _) | exact HI123.out)) (aR HO_130003) (by decide)) hk (fun _ h => h.2)) (fun _ h => h.1)); replace BK120 := Aside0.mk (KeepBut.blk hk (g' := gb120) (o := .cells #[.string (⟨#[]⟩ : ByteArray), .int .i64 0, .slice none 0 0, .slice none 0 0] 25 (0, 0)) (aB BK120) NB120_123.out (by simp)); replace BK129 := Aside0.mk (KeepBut.blk hk (g' := gb129) (o := .cells #[.string t126, .int .i64 t127, u130002, u130003] 25 (0, 0)) (aB BK129) NB129_123.out (by simp)); replace HB := Aside0.mk (hb); replace HI123 := Aside0.mk (hi); clear hb hk hi) | ((with_reducible refine gate_dst (N := 9) rfl ?_); refine boxA (N := 9) (cs := #[.int .i64 0, .int .i64 0, .string (⟨#[]⟩ : ByteArray), .int .i64 0, .int .i64 0]) (t := 33) ?_; intro gb158 hg w91 hbox hb; have n0_ := rB HO_130002 hb; have n1_ := Aside0.mk (Kd.R_below (Kd.R_elderB (aR HO_130003) gb158 (Nat.le_of_eq hg.symm)) hb); have n2_ := bB BK120 hb; have n3_ := bB BK129 hb; have n4_ := Aside0.mk (IsS53.below (by repeat (first | (with_reducible first | exact HI123.out | apply IsS53.alloc | apply IsS53.drewN | apply IsS53.drew | apply IsS53.set_1 | refine IsS53.far ?_ NB123_120.out _ | refine IsS53.far ?_ NB123_129.out _) | exact HI123.out)) hb); have n5_ := Aside0.mk (below_step (by repeat (first | (with_reducible first | exact HB.out | apply below_alloc | apply pw_below_drewN | apply below_drew1 | refine below_set ?_ (IsS53.ge HI123.out) | refine below_set ?_ GE120.out | refine below_set ?_ GE129.out) | exact HB.out)) hb); have n6_ := Aside0.mk (hbox); have n7_ := Aside0.mk ((by rw [hg]; exact (below_size (by repeat (first | (with_reducible first | exact HB.out | apply below_alloc | apply pw_below_drewN | apply below_drew1 | refine below_set ?_ (IsS53.ge HI123.out) | refine below_set ?_ GE120.out | refine below_set ?_ GE129.out) | exact HB.out))) : w.heap.size ≤ gb158)); have n8_ := Aside0.mk ((by rw [hg]; exact (below_size (by repeat (first | (with_reducible first | exact HB.out | apply below_alloc | apply pw_below_drewN | apply below_drew1 | refine below_set ?_ (IsS53.ge HI123.out) | refine below_set ?_ GE120.out | refine below_set ?_ GE129.out) | exact HB.out))) : w.heap.size ≤ gb158)); have n9_ := nL hg BK120; have n10_ := nG hg BK120; have n11_ := nL hg BK129; have n12_ := nG hg BK129; have n13_ := Aside0.mk ((by rw [hg]; exact Nat.ne_of_lt (IsS53.lt (show IsS53 w _ g123 t121 t157 from by repeat (first | (with_reducible first | exact HI123.out | apply IsS53.alloc | apply IsS53.drewN | apply IsS53.drew | apply IsS53.set_1 | refine IsS53.far ?_ NB123_120.out _ | refine IsS53.far ?_ NB123_129.out _) | exact HI123.out))) : g123 ≠ gb158)); have n14_ := Aside0.mk ((by rw [hg]; exact Nat.ne_of_gt (IsS53.lt (show IsS53 w _ g123 t121 t157 from by repeat (first | (with_reducible first | exact HI123.out | apply IsS53.alloc | apply IsS53.drewN | apply IsS53.drew | apply IsS53.set_1 | refine IsS53.far ?_ NB123_120.out _ | refine IsS53.far ?_ NB123_129.out _) | exact HI123.out))) : gb158 ≠ g123)); clear HO_130002; clear HO_130003; clear BK120; clear BK129; clear HI123; clear HB; have HO_130002 := n0_; have HO_130003 := n1_; have BK120 := n2_; have BK129 := n3_; have HI123 := n4_; have HB := n5_; have BK158 := n6_; have GW158 := n7_; have GE158 := n8_; have NB120_158 := n9_; have NB158_120 := n10_; have NB129_158 := n11_; have NB158_129 := n12_; have NB123_158 := n13_; have NB158_123 := n14_; clear n0_ n1_ n2_ n3_ n4_ n5_ n6_ n7_ n8_ n9_ n10_ n11_ n12_ n13_ n14_; clear hb hbox hg; have hnb92 := NB158_120.out; have hnc92 := NB120_158.out; have hnb93 := NB158_129.out; have hnc93 := NB129_158.out; have hnb94 := NB158_123.out; have hnc94 := NB123_158.out; have hcz95_0 : w91.cell? ⟨gb158, 0, none⟩ = some (.int .i64 0) := lc BK158 0; have hcz95_1 : w91.cell? ⟨gb158, 1, none⟩ = some (.int .i64 0) := lc BK158 1; have hcz95_2 : w91.cell? ⟨gb158, 2, none⟩ = some (.string (⟨#[]⟩ : ByteArray)) := lc BK158 2; have hcz95_3 : w91.cell? ⟨gb158, 3, none⟩ = some (.int .i64 0) := lc BK158 3; have hcz95_4 : w91.cell? ⟨gb158, 4, none⟩ = some (.int .i64 0) := lc BK158 4; have hfz95_0 := fz BK158 0; have hfz95_1 := fz BK158 1; have hfz95_2 := fz BK158 2; have hfz95_3 := fz BK158 3; have hfz95_4 := fz BK158 4; have hnb96 := NB129_120.out; have hnc96 := NB120_129.out; have hnb97 := NB129_123.out; have hnc97 := NB123_129.out; have hcz98_0 : w91.cell? ⟨gb129, 0, none⟩ = some (.string t126) := lc BK129 0; have hcz98_1 : w91.cell? ⟨gb129, 1, none⟩ = some (.int .i64 t127) := lc BK129 1; have hcz98_2 : w91.cell? ⟨gb129, 2, none⟩ = some (u130002) := lc BK129 2; have hcz98_3 : w91.cell? ⟨gb129, 3, none⟩ = some (u130003) := lc BK129 3; have hfz98_0 := fz BK129 0; have hfz98_1 := fz BK129 1; have hfz98_2 := fz BK129 2; have hfz98_3 := fz BK129 3) | ((with_reducible refine gate_builtin (b := .append) (xs := #[.tmp 73, .tmp 75]) rfl ?_); at_builtin; refine Kd.R_append k33 (w0 := w) w.heap.size rfl (.tmp 73) (.tmp 75) 23 33 (.agg #[(.int .i64 0), (.int .i64 0), (.string ⟨#[]⟩), (.int .i64 0), (.int .i64 0)]) 48 rfl Try.underlying23 info33 rfl (by decide) (by omega) u130003 x130003_2 (⟨wrap64 (1 + t149), t151, t155, wrap64 (1 + t156), 0⟩ : S33) [.int .i64 (wrap64 (1 + t149)), .int .i64 t151, .string t155, .int .i64 (wrap64 (1 + t156)), .int .i64 0] (fun k_ => k_ ≠ gb158) (fun _ => False) rfl (by first | (go_simp; done) | (go_simp; rfl)) ?aP (fun _ hk => hk.elim) ?aF ?aO ?aB ?aS ?aL ?_; (case aP => exact k33_mkM _ _ _ (⟨wrap64 (1 + t149), t151, t155, wrap64 (1 + t156), 0⟩ : S33)); (case aB => exact (by repeat (first | (with_reducible first | exact HB.out | apply below_alloc | apply pw_below_drewN | apply below_drew1 | refine below_set ?_ (IsS53.ge HI123.out) | refine below_set ?_ GE120.out | refine below_set ?_ GE129.out | refine below_set ?_ GE158.out) | exact HB.out))); (case aF => exact (fun k_ hk => Kd.freshB (g := gb158) (o := .cells #[.int .i64 (wrap64 (1 + t149)), .int .i64 t151, .string t155, .int .i64 (wrap64 (1 + t156)), .int .i64 0] 33 (0, 0)) (by (with_reducible repeat (first | refine blk_drewN ?_ _ | refine blk_drew ?_ | refine blk_alloc ?_ _)); refine blk_put (cs := #[.int .i64 (wrap64 (1 + t149)), .int .i64 t151, .string t155, .int .i64 (wrap64 (1 + t156)), .int .i64 0]) ?_ 4 _ rfl; (with_reducible repeat (first | refine blk_drewN ?_ _ | refine blk_drew ?_ | refine blk_alloc ?_ _)); refine blk_put (cs := #[.int .i64 (wrap64 (1 + t149)), .int .i64 t151, .string t155, .int .i64 0, .int .i64 0]) ?_ 3 _ rfl; (with_reducible repeat (first | refine blk_drewN ?_ _ | refine blk_drew ?_ | refine blk_alloc ?_ _)); refine blk_put (cs := #[.int .i64 (wrap64 (1 + t149)), .int .i64 t151, .string (⟨#[]⟩ : ByteArray), .int .i64 0, .int .i64 0]) ?_ 2 _ rfl; (with_reducible repeat (first | refine blk_drewN ?_ _ | refine blk_drew ?_ | refine blk_alloc ?_ _)); refine blk_put (cs := #[.int .i64 (wrap64 (1 + t149)), .int .i64 0, .string (⟨#[]⟩ : ByteArray), .int .i64 0, .int .i64 0]) ?_ 1 _ rfl; (with_reducible repeat (first | refine blk_drewN ?_ _ | refine blk_drew ?_ | refine blk_alloc ?_ _)); refine blk_put (cs := #[.int .i64 0, .int .i64 0, .string (⟨#[]⟩ : ByteArray), .int .i64 0, .int .i64 0]) ?_ 0 _ rfl; (with_reducible repeat (first | refine blk_drewN ?_ _ | refine blk_drew ?_ | refine blk_alloc ?_ _)); exact BK158.out) k_ hk)); (case aO => exact (by (with_reducible repeat (first | apply Kd.R_alloc | apply Kd.R_drewN | apply Kd.R_drew)); exact Kd.R_mono (Kd.R_far (p := ⟨gb158, 4, none⟩) (Kd.R_far (p := ⟨gb158, 3, none⟩) (Kd.R_far (p := ⟨gb158, 2, none⟩) (Kd.R_far (p := ⟨gb158, 1, none⟩) (Kd.R_far (p := ⟨gb158, 0, none⟩) (Kd.R_mono HO_130003.out (fun k_ hk => (⟨hk, hk.2⟩ : _ ∧ k_ ≠ gb158))) (fun _ hk => hk.2) (.int .i64 (wrap64 (1 + t149)))) (fun _ hk => hk.2) (.int .i64 t151)) (fun _ hk => hk.2) (.string t155)) (fun _ hk => hk.2) (.int .i64 (wrap64 (1 + t156)))) (fun _ hk => hk.2) (.int .i64 0)) (fun _ hk => hk.1.2))); (case aS => exact (below_size (by repeat (first | (with_reducible first | exact HB.out | apply below_alloc | apply pw_below_drewN | apply below_drew1 | refine below_set ?_ (IsS53.ge HI123.out) | refine below_set ?_ GE120.out | refine below_set ?_ GE129.out | refine below_set ?_ GE158.out) | exact HB.out)))); (case aL => have := LMc85.out; omega); intro v165 w99 ho hb hg hat; rw [← Ny164.out] at ho; replace HO_130002 := Aside0.mk (Kd.R_over' (by (with_reducible repeat (first | apply Kd.R_alloc | apply Kd.R_drewN | apply Kd.R_drew)); exact (Kd.R_mono (Kd.R_far (p := ⟨gb158, 4, none⟩) (Kd.R_far (p := ⟨gb158, 3, none⟩) (Kd.R_far (p := ⟨gb158, 2, none⟩) (Kd.R_far (p := ⟨gb158, 1, none⟩) (Kd.R_far (p := ⟨gb158, 0, none⟩) (Kd.R_types HO_130002.out BK158.out (by decide)) (fun _ hk => hk.2) (.int .i64 (wrap64 (1 + t149)))) (fun _ hk => hk.2) (.int .i64 t151)) (fun _ hk => hk.2) (.string t155)) (fun _ hk => hk.2) (.int .i64 (wrap64 (1 + t156)))) (fun _ hk => hk.2) (.int .i64 0)) (fun _ h_ => h_.1))) (Kd.R_typed (by (with_reducible repeat (first | apply Kd.R_alloc | apply Kd.R_drewN | apply Kd.R_drew)); exact (Kd.R_mono (Kd.R_far (p := ⟨gb158, 4, none⟩) (Kd.R_far (p := ⟨gb158, 3, none⟩) (Kd.R_far (p := ⟨gb158, 2, none⟩) (Kd.R_far (p := ⟨gb158, 1, none⟩) (Kd.R_far (p := ⟨gb158, 0, none⟩) (Kd.R_mono HO_130003.out (fun k_ hk => (⟨hk, hk.2⟩ : _ ∧ k_ ≠ gb158))) (fun _ hk => hk.2) (.int .i64 (wrap64 (1 + t149)))) (fun _ hk => hk.2) (.int .i64 t151)) (fun _ hk => hk.2) (.string t155)) (fun _ hk => hk.2) (.int .i64 (wrap64 (1 + t156)))) (fun _ hk => hk.2) (.int .i64 0)) (fun _ h_ => h_.1)))) (by decide) hg); replace BK120 := Aside0.mk (blk_grown (g := gb120) (o := .cells #[.string (⟨#[]⟩ : ByteArray), .int .i64 0, .slice none 0 0, .slice none 0 0] 25 (0, 0)) (by (with_reducible repeat (first | refine blk_drewN ?_ _ | refine blk_drew ?_ | refine blk_alloc ?_ _)); refine blk_far ?_ NB120_158.out _; (with_reducible repeat (first | refine blk_drewN ?_ _ | refine blk_drew ?_ | refine blk_alloc ?_ _)); refine blk_far ?_ NB120_158.out _; (with_reducible repeat (first | refine blk_drewN ?_ _ | refine blk_drew ?_ | refine blk_alloc ?_ _)); refine blk_far ?_ NB120_158.out _; (with_reducible repeat (first | refine blk_drewN ?_ _ | refine blk_drew ?_ | refine blk_alloc ?_ _)); refine blk_far ?_ NB120_158.out _; (with_reducible repeat (first | refine blk_drewN ?_ _ | refine blk_drew ?_ | refine blk_alloc ?_ _)); refine blk_far ?_ NB120_158.out _; (with_reducible repeat (first | refine blk_drewN ?_ _ | refine blk_drew ?_ | refine blk_alloc ?_ _)); exact BK120.out) hg (Kd.R_ne HO_130003.out BK120.out (by decide))); replace BK129 := Aside0.mk (blk_grown (g := gb129) (o := .cells #[.string t126, .int .i64 t127, u130002, u130003] 25 (0, 0)) (by (with_reducible repeat (first | refine blk_drewN ?_ _ | refine blk_drew ?_ | refine blk_alloc ?_ _)); refine blk_far ?_ NB129_158.out _; (with_reducible repeat (first | refine blk_drewN ?_ _ | refine blk_drew ?_ | refine blk_alloc ?_ _)); refine blk_far ?_ NB129_158.out _; (with_reducible repeat (first | refine blk_drewN ?_ _ | refine blk_drew ?_ | refine blk_alloc ?_ _)); refine blk_far ?_ NB129_158.out _; (with_reducible repeat (first | refine blk_drewN ?_ _ | refine blk_drew ?_ | refine blk_alloc ?_ _)); refine blk_far ?_ NB129_158.out _; (with_reducible repeat (first | refine blk_drewN ?_ _ | refine blk_drew ?_ | refine blk_alloc ?_ _)); refine blk_far ?_ NB129_158.out _; (with_reducible repeat (first | refine blk_drewN ?_ _ | refine blk_drew ?_ | refine blk_alloc ?_ _)); exact BK129.out) hg (Kd.R_ne HO_130003.out BK129.out (by decide))); replace HI123 := Aside0.mk (IsS53.grown (show IsS53 w _ g123 t121 t157 from by repeat (first | (with_reducible first | exact HI123.out | apply IsS53.alloc | apply IsS53.drewN | apply IsS53.drew | apply IsS53.set_1 | refine IsS53.far ?_ NB123_120.out _ | refine IsS53.far ?_ NB123_129.out _ | refine IsS53.far ?_ NB123_158.out _) | exact HI123.out)) hg (IsS53.own_ne HI123.out HO_130003.out (by decide))); replace BK158 := Aside0.mk (blk_grown (g := gb158) (o := .cells #[.int .i64 (wrap64 (1 + t149)), .int .i64 t151, .string t155, .int .i64 (wrap64 (1 + t156)), .int .i64 0] 33 (0, 0)) (by (with_reducible repeat (first | refine blk_drewN ?_ _ | refine blk_drew ?_ | refine blk_alloc ?_ _)); refine blk_put (cs := #[.int .i64 (wrap64 (1 + t149)), .int .i64 t151, .string t155, .int .i64 (wrap64 (1 + t156)), .int .i64 0]) ?_ 4 _ rfl; (with_reducible repeat (first | refine blk_drewN ?_ _ | refine blk_drew ?_ | refine blk_alloc ?_ _)); refine blk_put (cs := #[.int .i64 (wrap64 (1 + t149)), .int .i64 t151, .string t155, .int .i64 0, .int .i64 0]) ?_ 3 _ rfl; (with_reducible repeat (first | refine blk_drewN ?_ _ | refine blk_drew ?_ | refine blk_alloc ?_ _)); refine blk_put (cs := #[.int .i64 (wrap64 (1 + t149)), .int .i64 t151, .string (⟨#[]⟩ : ByteArray), .int .i64 0, .int .i64 0]) ?_ 2 _ rfl; (with_reducible repeat (first | refine blk_drewN ?_ _ | refine blk_drew ?_ | refine blk_alloc ?_ _)); refine blk_put (cs := #[.int .i64 (wrap64 (1 + t149)), .int .i64 0, .string (⟨#[]⟩ : ByteArray), .int .i64 0, .int .i64 0]) ?_ 1 _ rfl; (with_reducible repeat (first | refine blk_drewN ?_ _ | refine blk_drew ?_ | refine blk_alloc ?_ _)); refine blk_put (cs := #[.int .i64 0, .int .i64 0, .string (⟨#[]⟩ : ByteArray), .int .i64 0, .int .i64 0]) ?_ 0 _ rfl; (with_reducible repeat (first | refine blk_drewN ?_ _ | refine blk_drew ?_ | refine blk_alloc ?_ _)); exact BK158.out) hg (Kd.R_away HO_130003.out (fun _ hk => hk.2))); replace HB := Aside0.mk (hb); have HO166 := Aside0.mk (ho); clear HO_130003; clear ho hb hg hat; obtain ⟨Ao100, co100, eo100⟩ := Kd.R_slice HO166.out; subst eo100; have hcz101_0 : w99.cell? ⟨gb129, 0, none⟩ = some (.string t126) := lc BK129 0; have hcz101_1 : w99.cell? ⟨gb129, 1, none⟩ = some (.int .i64 t127) := lc BK129 1; have hcz101_2 : w99.cell? ⟨gb129, 2, none⟩ = some (u130002) := lc BK129 2; have hcz101_3 : w99.cell? ⟨gb129, 3, none⟩ = some (u130003) := lc BK129 3; have hfz101_0 := fz BK129 0; have hfz101_1 := fz BK129 1; have hfz101_2 := fz BK129 2; have hfz101_3 := fz BK129 3))
          go_roundg k2
          case measure => have := HK1.out; have := HK2.out; omega
          case rel => exact ⟨(wrap64 (x8_2 - 1)), (t157), (y164), (.slice Ao100 y164.length co100), (by first | rfl | (simp; done) | (simp [*]; done)), H', ⟨by have := HK1.out; have := HK2.out; omega⟩, ⟨by (with_reducible repeat (first | apply Kd.R_alloc | apply Kd.R_drewN | apply Kd.R_drew)); exact Kd.R_mono (Kd.R_far (p := ⟨gb129, 3, none⟩) (Kd.R_types HO_130002.out BK129.out (by decide)) (fun _ hk => hk.2) (.slice Ao100 y164.length co100)) (fun _ hk => trivial)⟩, ⟨by (with_reducible repeat (first | apply Kd.R_alloc | apply Kd.R_drewN | apply Kd.R_drew)); exact Kd.R_mono (Kd.R_far (p := ⟨gb129, 3, none⟩) (Kd.R_types HO166.out BK129.out (by decide)) (fun _ hk => hk.2) (.slice Ao100 y164.length co100)) (fun _ hk => trivial)⟩, ⟨by (with_reducible repeat (first | refine blk_drewN ?_ _ | refine blk_drew ?_ | refine blk_alloc ?_ _)); refine blk_far ?_ NB120_129.out _; (with_reducible repeat (first | refine blk_drewN ?_ _ | refine blk_drew ?_ | refine blk_alloc ?_ _)); exact BK120.out⟩, ⟨by (with_reducible repeat (first | refine blk_drewN ?_ _ | refine blk_drew ?_ | refine blk_alloc ?_ _)); refine blk_put (cs := #[.string t126, .int .i64 t127, u130002, u130003]) ?_ 3 _ rfl; (with_reducible repeat (first | refine blk_drewN ?_ _ | refine blk_drew ?_ | refine blk_alloc ?_ _)); exact BK129.out⟩, ⟨by repeat (first | (with_reducible first | exact HI123.out | apply IsS53.alloc | apply IsS53.drewN | apply IsS53.drew | apply IsS53.set_1 | refine IsS53.far ?_ NB123_120.out _ | refine IsS53.far ?_ NB123_129.out _ | refine IsS53.far ?_ NB123_158.out _) | exact HI123.out)⟩, ⟨by repeat (first | (with_reducible first | exact HB.out | apply below_alloc | apply pw_below_drewN | apply below_drew1 | refine below_set ?_ (IsS53.ge HI123.out) | refine below_set ?_ GE120.out | refine below_set ?_ GE129.out | refine below_set ?_ GE158.out) | exact HB.out)⟩⟩
         ·rw [if_neg c85] at H
          exact absurd H (by simp)
       ·rw [if_neg c56] at H
        have c56b0 : decide (0 < x8_2) = false := decide_eq_false c56
        clear c56
        simp only [Option.some.injEq, Prod.mk.injEq] at H
        obtain ⟨rfl, rfl, rfl, rfl⟩ := H
        have hnb102 := NB129_120.out
        have hnc102 := NB120_129.out
        have hnb103 := NB129_123.out
        have hnc103 := NB123_129.out
        have hcz104_0 : wr.cell? ⟨gb129, 0, none⟩ = some (.string t126) := lc BK129 0
        have hcz104_1 : wr.cell? ⟨gb129, 1, none⟩ = some (.int .i64 t127) := lc BK129 1
        have hcz104_2 : wr.cell? ⟨gb129, 2, none⟩ = some (u130002) := lc BK129 2
        have hcz104_3 : wr.cell? ⟨gb129, 3, none⟩ = some (u130003) := lc BK129 3
        have hfz104_0 := fz BK129 0
        have hfz104_1 := fz BK129 1
        have hfz104_2 := fz BK129 2
        have hfz104_3 := fz BK129 3
        have hnb105 := NB120_123.out
        have hnc105 := NB123_120.out
        have hcz106_0 : wr.cell? ⟨gb120, 0, none⟩ = some (.string (⟨#[]⟩ : ByteArray)) := lc BK120 0
        have hcz106_1 : wr.cell? ⟨gb120, 1, none⟩ = some (.int .i64 0) := lc BK120 1
        have hcz106_2 : wr.cell? ⟨gb120, 2, none⟩ = some (.slice none 0 0) := lc BK120 2
        have hcz106_3 : wr.cell? ⟨gb120, 3, none⟩ = some (.slice none 0 0) := lc BK120 3
        have hfz106_0 := fz BK120 0
        have hfz106_1 := fz BK120 1
        have hfz106_2 := fz BK120 2
        have hfz106_3 := fz BK120 3
        obtain ⟨Ao107, co107, eo107⟩ := Kd.R_slice HO_130002.out
        subst eo107
        obtain ⟨Ao108, co108, eo108⟩ := Kd.R_slice HO_130003.out
        subst eo108
        go_wp2
        refine bodyPost_ret (results_cell_row rfl _ _ gb120 25 #[.string t126, .int .i64 t127, .slice Ao107 x130002_1.length co107, .slice Ao108 x130003_2.length co108] (0, 0) _ rfl (by (with_reducible repeat (first | refine blk_drewN ?_ _ | refine blk_drew ?_ | refine blk_alloc ?_ _)); refine blk_put (cs := #[.string t126, .int .i64 t127, .slice Ao107 x130002_1.length co107, .slice none 0 0]) ?_ 3 _ rfl; (with_reducible repeat (first | refine blk_drewN ?_ _ | refine blk_drew ?_ | refine blk_alloc ?_ _)); refine blk_put (cs := #[.string t126, .int .i64 t127, .slice none 0 0, .slice none 0 0]) ?_ 2 _ rfl; (with_reducible repeat (first | refine blk_drewN ?_ _ | refine blk_drew ?_ | refine blk_alloc ?_ _)); refine blk_put (cs := #[.string t126, .int .i64 0, .slice none 0 0, .slice none 0 0]) ?_ 1 _ rfl; (with_reducible repeat (first | refine blk_drewN ?_ _ | refine blk_drew ?_ | refine blk_alloc ?_ _)); refine blk_put (cs := #[.string (⟨#[]⟩ : ByteArray), .int .i64 0, .slice none 0 0, .slice none 0 0]) ?_ 0 _ rfl; (with_reducible repeat (first | refine blk_drewN ?_ _ | refine blk_drew ?_ | refine blk_alloc ?_ _)); exact BK120.out) Try.underlying25 rfl (by kernel_rfl)) rfl ?_
        exact ⟨_, _, by first | rfl | (simp [errW_none, errW_some] <;> rfl) | (simp [*, errW_none, errW_some] <;> rfl) | (simp (disch := first | assumption | omega) only [Int.tdiv_eq_ediv_of_nonneg, Int.tmod_eq_emod_of_nonneg]; rfl), by (with_reducible repeat (first | apply Kd.R_alloc | apply Kd.R_drewN | apply Kd.R_drew)); exact Kd.R_mono (Kd.R_far (p := ⟨gb120, 3, none⟩) (Kd.R_far (p := ⟨gb120, 2, none⟩) (Kd.R_far (p := ⟨gb120, 1, none⟩) (Kd.R_far (p := ⟨gb120, 0, none⟩) (Kd.R_types HO_130002.out BK120.out (by decide)) (fun _ hk => hk.2) (.string t126)) (fun _ hk => hk.2) (.int .i64 t127)) (fun _ hk => hk.2) (.slice Ao107 x130002_1.length co107)) (fun _ hk => hk.2) (.slice Ao108 x130003_2.length co108)) (fun _ hk => trivial), by (with_reducible repeat (first | apply Kd.R_alloc | apply Kd.R_drewN | apply Kd.R_drew)); exact Kd.R_mono (Kd.R_far (p := ⟨gb120, 3, none⟩) (Kd.R_far (p := ⟨gb120, 2, none⟩) (Kd.R_far (p := ⟨gb120, 1, none⟩) (Kd.R_far (p := ⟨gb120, 0, none⟩) (Kd.R_types HO_130003.out BK120.out (by decide)) (fun _ hk => hk.2) (.string t126)) (fun _ hk => hk.2) (.int .i64 t127)) (fun _ hk => hk.2) (.slice Ao107 x130002_1.length co107)) (fun _ hk => hk.2) (.slice Ao108 x130003_2.length co108)) (fun _ hk => trivial), by repeat (first | (with_reducible first | exact HB.out | apply below_alloc | apply pw_below_drewN | apply below_drew1 | refine below_set ?_ (IsS53.ge HI123.out) | refine below_set ?_ GE120.out | refine below_set ?_ GE129.out) | exact HB.out)⟩

end Go.Proofs.Yteoieencagcgdaa.PX
end
section
namespace Go.Proofs.Yteoieencagcgdaa.PX
open Go.RowKit Go.Proofs.YteoieencagcgdaaW.PrintWords Go.Proofs.YteoieencagcgdaaW.PrintLast Go.Proofs.YteoieencagcgdaaW.PrintMore
attribute [local go_sem] max2_int min2_int max_two min_two max_three min_three max_four min_four
set_option linter.unusedVariables false
set_option linter.unusedSimpArgs false

def customsmade_Currencies.f  : Option (List ByteArray) := some (([(⟨#[67, 72, 70]⟩ : ByteArray), (⟨#[71, 66, 80]⟩ : ByteArray), (⟨#[85, 83, 68]⟩ : ByteArray)] : List ByteArray))
set_option maxHeartbeats 8000000 in
set_option maxRecDepth 100000 in
theorem customsmade_Currencies.calls  (r : List ByteArray) (w : World) (h : customsmade_Currencies.f  = some r) :
   Calls Try.prog 28 #[] w fun e w' => ∃ v0_ : Value, e = .returned (v0_) ∧ Kd.R Kd.string 9 w' w.heap.size (fun _ => True) v0_ r ∧ Below w.heap.size w w' := by
  have HB := Aside0.mk (Below.refl w.heap.size w)
  have H : (some (([(⟨#[67, 72, 70]⟩ : ByteArray), (⟨#[71, 66, 80]⟩ : ByteArray), (⟨#[85, 83, 68]⟩ : ByteArray)] : List ByteArray))) = some r := h
  clear h
  obtain ⟨y376, hy376⟩ : ∃ y_ : List ByteArray, y_ = (([(⟨#[67, 72, 70]⟩ : ByteArray), (⟨#[71, 66, 80]⟩ : ByteArray), (⟨#[85, 83, 68]⟩ : ByteArray)] : List ByteArray)) := ⟨_, rfl⟩
  replace H : (some y376) = some r := by first | (rw [hy376]; with_reducible exact H) | (have H2_ := (Option.bind_some _ _).symm.trans H; rw [hy376]; with_reducible exact H2_) | (have H2_ := (Option.bind_some _ _).symm.trans H; with_reducible exact H2_) | with_reducible exact H | (rw [hy376]; exact H) | exact H
  have Ny376 := Aside0.mk hy376
  clear hy376
  obtain rfl := Option.some.inj H
  simp only [Option.some.injEq, Prod.mk.injEq] at H
  obtain ⟨rfl⟩ := H
  go_enter Try.func28, Try.ntmps28
  go_wp2_with (first | ((with_reducible refine gate_dst (N := 1) rfl ?_); refine Kd.R_lit Kd.string _ 9 ?hg (N := 1) ?hd (xs := ([(⟨#[67, 72, 70]⟩ : ByteArray), (⟨#[71, 66, 80]⟩ : ByteArray), (⟨#[85, 83, 68]⟩ : ByteArray)] : List ByteArray)) (inner := [.string (⟨#[67, 72, 70]⟩ : ByteArray), .string (⟨#[71, 66, 80]⟩ : ByteArray), .string (⟨#[85, 83, 68]⟩ : ByteArray)]) (ok := fun _ => True) (okp := fun _ => True) ?hr ?hp (fun _ hk => hk) trivial (Below.refl _ _) (Nat.le_refl _) (by simp) ?_; (case hd => rfl); (case hg => rfl); (case hr => first | (go_simp; done) | (go_simp; rfl)); (case hp => exact (Reps.one (show Kd.M Kd.string _ _ _ (⟨#[67, 72, 70]⟩ : ByteArray) [.string (⟨#[67, 72, 70]⟩ : ByteArray)] from rfl) (Reps.one (show Kd.M Kd.string _ _ _ (⟨#[71, 66, 80]⟩ : ByteArray) [.string (⟨#[71, 66, 80]⟩ : ByteArray)] from rfl) (Reps.one (show Kd.M Kd.string _ _ _ (⟨#[85, 83, 68]⟩ : ByteArray) [.string (⟨#[85, 83, 68]⟩ : ByteArray)] from rfl) (Reps.none _ _))))); intro v377 w1 ho2 hb hg_ hnew_; clear hg_ hnew_; (first | rw [← Ny376.out] at ho2 | (simp only [Int.reduceToNat] at ho2; rw [← Ny376.out] at ho2)); have n0_ := rL ho2 HB; have n1_ := hB HB hb; clear HB; have HO378 := n0_; have HB := n1_; clear n0_ n1_; clear hb ho2))
  go_ret
  exact ⟨_, by first | rfl | (simp [errW_none, errW_some] <;> rfl) | (simp [*, errW_none, errW_some] <;> rfl) | (simp (disch := first | assumption | omega) only [Int.tdiv_eq_ediv_of_nonneg, Int.tmod_eq_emod_of_nonneg]; rfl), aR HO378, aH HB⟩

end Go.Proofs.Yteoieencagcgdaa.PX
end
section
namespace Go.Proofs.Yteoieencagcgdaa.PX
open Go.RowKit Go.Proofs.YteoieencagcgdaaW.PrintWords Go.Proofs.YteoieencagcgdaaW.PrintLast Go.Proofs.YteoieencagcgdaaW.PrintMore
attribute [local go_sem] max2_int min2_int max_two min_two max_three min_three max_four min_four
set_option linter.unusedVariables false
set_option linter.unusedSimpArgs false

def tabRow (cur : ByteArray) : Nat → Int → List Int → List S61 × List Int
  | 0, _, l => ([], l)
  | n + 1, day, l => (⟨cur, day, 1 + (srcNext l 1000000000).1⟩ :: (tabRow cur n (day + 1 + (srcNext (srcNext l 1000000000).2 20).1) (srcNext (srcNext l 1000000000).2 20).2).1, (tabRow cur n (day + 1 + (srcNext (srcNext l 1000000000).2 20).1) (srcNext (srcNext l 1000000000).2 20).2).2)
def tabAll : List ByteArray → List Int → List S61
  | [], _ => []
  | c :: cs, l => (tabRow c (srcNext (srcNext l 20).2 4).1.toNat (srcNext l 20).1 (srcNext (srcNext l 20).2 4).2).1 ++ tabAll cs (tabRow c (srcNext (srcNext l 20).2 4).1.toNat (srcNext l 20).1 (srcNext (srcNext l 20).2 4).2).2
def curs : List ByteArray := [⟨#[67, 72, 70]⟩, ⟨#[71, 66, 80]⟩, ⟨#[85, 83, 68]⟩]
theorem tabAll_drop (i : Nat) (hi : i < 3) (l : List Int) : tabAll (curs.drop i) l = (tabRow (curs.getD i ⟨#[]⟩) (srcNext (srcNext l 20).2 4).1.toNat (srcNext l 20).1 (srcNext (srcNext l 20).2 4).2).1 ++ tabAll (curs.drop (i + 1)) (tabRow (curs.getD i ⟨#[]⟩) (srcNext (srcNext l 20).2 4).1.toNat (srcNext l 20).1 (srcNext (srcNext l 20).2 4).2).2 := by
  have : i = 0 ∨ i = 1 ∨ i = 2 := by omega
  rcases this with rfl | rfl | rfl <;> rfl
def customsmade_Table.f (xs : List Int) : Option (List S61) := if xs.all rng64 = true then some (tabAll curs (xs.take 40)) else none
set_option maxHeartbeats 2000000 in
set_option maxRecDepth 100000 in
theorem customsmade_Table.calls (A : Option Addr) (c : Nat) (xs : List Int) (r : List S61) (w : World) (hr : Kd.C (Kd.int .i64) w A xs.length xs) (hc : xs.length ≤ c) (h : customsmade_Table.f xs = some r) :
    Calls Try.prog 15 #[.slice A xs.length c] w fun e w' => ∃ v0_ : Value, e = .returned (v0_) ∧ Kd.R k61 61 w' w.heap.size (fun _ => True) v0_ r ∧ Below w.heap.size w w' := by
  unfold customsmade_Table.f at h
  by_cases hall : xs.all rng64 = true
  case neg => rw [if_neg hall] at h; exact absurd h (by simp)
  rw [if_pos hall] at h
  have hres := Option.some.inj h
  have hx := rng_all hall
  clear h hall
  have hu49 := Try.underlying53
  have hu25 := Try.underlying61
  obtain ⟨ys, hy⟩ : ∃ ys, xs.take 40 = ys := ⟨_, rfl⟩
  have hry := take_reads hr 40 ys hy
  have hxy : ∀ x ∈ ys, Rng64 x := fun x hm => hx x (List.mem_of_mem_take (hy ▸ hm))
  rw [hy] at hres
  go_enter Try.func15, Try.ntmps15
  go_wp2_with fail
  refine (cut_reads A c xs 40 _ hr hc (by decide) ys hy).mono ?_
  rintro e w1 ⟨rfl, rfl⟩
  go_wp2_with fail
  refine (customsmade_Currencies.calls _ _ rfl).mono ?_
  rintro e w2 ⟨v5, rfl, hR5, hB5⟩
  obtain ⟨A5, c5, rfl⟩ := Kd.R_slice hR5
  have hS := (Src.new w w A c ys (Below.refl _ _) hry hxy).below hB5
  have hne5 := hS.own_ne hR5 (by decide)
  obtain ⟨A5', c5', e5, hle5, hC5⟩ := Kd.R_reads hR5
  obtain ⟨rfl, rfl⟩ : A5' = A5 ∧ c5' = c5 := by simp at e5; exact ⟨e5.1.symm, e5.2.symm⟩
  clear e5 hR5 hr hry hxy hx hc hy
  have hBw : Below w.heap.size w w2 := ((Below.refl _ _).alloc (Nat.le_refl _) _).trans (hB5.mono (by simp))
  obtain ⟨ad5, hA5⟩ : ∃ ad, A5' = some ad := by
    obtain ⟨ad, h, _⟩ := Kd.at_string hC5 0 (by decide) (by decide)
    exact ⟨ad, h⟩
  subst hA5
  have hne5' : ad5.block ≠ w.heap.size := by
    intro h; apply hne5; simp [Value.ownBlock, h]
  have hlt5 : ad5.block < w2.heap.size := by
    obtain ⟨ad, h, hc⟩ := Kd.at_string hC5 0 (by decide) (by decide)
    cases h
    exact World.block_lt_of_cell? w2 _ hc
  have hcur : ∀ i : Nat, i < 3 → w2.cell? (ad5.add i) = some (.string (curs.getD i ⟨#[]⟩)) := by
    intro i hi
    obtain ⟨ad, h, hc⟩ := Kd.at_string hC5 (i : Int) (by omega) (by simp; omega)
    cases h
    have : i = 0 ∨ i = 1 ∨ i = 2 := by omega
    rcases this with rfl | rfl | rfl <;> exact hc
  clear hC5 hne5 hle5
  have HB5 := Aside0.mk hB5
  have hgb : w.heap.size < w2.heap.size := hS.lt
  have Hcur := Aside0.mk hcur
  have Hres := Aside0.mk hres
  clear hB5 hcur hres
  go_wp2_with fail
  go_loopw [4, 6] (fun s4 s6 wr => ∃ (i : Nat) (v : Value) (done : List S61) (l : List Int), i ≤ 3 ∧ s6 = .int .i64 i ∧ s4 = v ∧ Aside0 (Kd.R k61 61 wr w2.heap.size (fun _ => True) v done) ∧ Aside0 (Src w wr w.heap.size l) ∧ Aside0 (Below w.heap.size w wr) ∧ Aside0 (KeepBut w2 wr w.heap.size none) ∧ done.length ≤ 3 * i ∧ Aside0 (done ++ tabAll (curs.drop i) l = r))
    (fun _ i _ => 3 - (intOf i).toNat)
  case atStart => exact ⟨0, _, [], ys, by omega, rfl, rfl, ⟨Kd.R_nil _ _ _ _ _⟩, ⟨hS⟩, ⟨hBw⟩, ⟨KeepBut.refl _ _ _⟩, by simp, ⟨Hres.out⟩⟩
  case round =>
    obtain ⟨i, v, done, l, hi, rfl, rfl, HR, HS, HB, HK, hdl, Hr⟩ := hrel
    by_cases hlt : i < 3
    · have hlt' : decide ((i : Int) < 3) = true := decide_eq_true (by omega)
      obtain ⟨d, l1, hn1⟩ : ∃ d l1, srcNext l 20 = (d, l1) := ⟨_, _, rfl⟩
      obtain ⟨n, l2, hn2⟩ : ∃ n l2, srcNext l1 4 = (n, l2) := ⟨_, _, rfl⟩
      have hd := srcNext_rng hn1 (by decide)
      have hn := srcNext_rng hn2 (by decide)
      have Hr' := Hr.out
      rw [tabAll_drop i hlt, hn1] at Hr'
      simp only [hn2] at Hr'
      have Hn1 := Aside0.mk hn1
      have Hn2 := Aside0.mk hn2
      have Hr1 := Aside0.mk Hr'
      clear Hr Hr' hn1 hn2
      go_wp2_with fail
      refine (src_next 20 HS.out HB.out (by decide) (by decide) d l1 Hn1.out).mono ?_
      rintro e w3 ⟨rfl, hS3, hB3, hK3⟩
      go_wp2_with fail
      refine (src_next 4 hS3 hB3 (by decide) (by decide) n l2 Hn2.out).mono ?_
      rintro e w4 ⟨rfl, hS4, hB4, hK4⟩
      have HK4 := Aside0.mk (KeepBut.trans (KeepBut.trans HK.out hK3 (.inl rfl)) hK4 (.inl rfl))
      have HR4 := Aside0.mk (R_keep_base (R_keep_base HR.out hK3 hgb) hK4 hgb)
      have HB4 := Aside0.mk hB4
      have HS4 := Aside0.mk hS4
      clear hS3 hB3 hK3 hS4 hB4 hK4 HS HB HK HR
      go_wp2_with fail
      go_loopw [4, 7, 8] (fun s4 s7 s8 wr => ∃ (v : Value) (done' : List S61) (day : Int) (m : Nat) (l : List Int), s4 = v ∧ s7 = .int .i64 day ∧ s8 = .int .i64 m ∧ Aside0 (Kd.R k61 61 wr w2.heap.size (fun _ => True) v done') ∧ Aside0 (Src w wr w.heap.size l) ∧ Aside0 (Below w.heap.size w wr) ∧ Aside0 (KeepBut w2 wr w.heap.size none) ∧ done'.length + m ≤ 3 * (i + 1) ∧ 0 ≤ day ∧ day + 20 * m ≤ 100 ∧ Aside0 (done' ++ ((tabRow (curs.getD i ⟨#[]⟩) m day l).1 ++ tabAll (curs.drop (i + 1)) (tabRow (curs.getD i ⟨#[]⟩) m day l).2) = r))
        (fun _ _ m _ => (intOf m).toNat)
      case atStart => exact ⟨_, done, d, n.toNat, l2, rfl, rfl, by rw [show ((n.toNat : Nat) : Int) = n by omega], HR4, HS4, HB4, HK4, by omega, by omega, by omega, ⟨by rw [← Hr1.out]⟩⟩
      case round =>
        obtain ⟨v, done', day, m, l, rfl, rfl, rfl, HR, HS, HB, HK, hdl', hd0, hd1, Hr⟩ := hrel
        cases m with
        | zero =>
          have h0 : decide (0 < (0 : Int)) = false := rfl
          go_wp2
          go_roundw
          case rel => exact ⟨i + 1, _, done', l, by omega, by go_num, rfl, HR, HS, HB, HK, by omega, ⟨by have := Hr.out; simpa [tabRow] using this⟩⟩
          case measure => simp [intOf]; omega
        | succ m =>
          have h0 : decide (0 < ((m + 1 : Nat) : Int)) = true := decide_eq_true (by omega)
          obtain ⟨p, l1, hn1⟩ : ∃ p l1, srcNext l 1000000000 = (p, l1) := ⟨_, _, rfl⟩
          obtain ⟨q, l2, hn2⟩ : ∃ q l2, srcNext l1 20 = (q, l2) := ⟨_, _, rfl⟩
          have hp := srcNext_rng hn1 (by decide)
          have hq := srcNext_rng hn2 (by decide)
          have Hn1 := Aside0.mk hn1
          have Hn2 := Aside0.mk hn2
          clear hn1 hn2
          have hcur := keep_cell HK.out (Hcur.out i hlt) (by unfold Addr.add; split <;> exact hne5')
          obtain ⟨cu, hcu⟩ : ∃ cu, curs.getD i ⟨#[]⟩ = cu := ⟨_, rfl⟩
          rw [hcu] at hcur
          have Hcu := Aside0.mk hcu
          clear hcu
          have hi0 : (0 : Int) ≤ (i : Int) := by omega
          have hi3 : (i : Int) < 3 := by omega
          go_wp2_with fail
          have hw1 : IntKind.i64.wrap (1 + p) = 1 + p := IntWalk.i64_in _ (by omega)
          go_region_held3 (fun w' => w'.cell? (ad5.add i) = some (.string cu))
            (first | go_keep | exact hg1.cell (cell_alloc (by assumption) (by rw [add_block]; exact Nat.lt_of_lt_of_le hlt5 (Nat.le_trans HK.out.1 hK3.1))) (by rw [add_block]; intro e; have := Kd.R_base HR.out _ e.symm; omega) | exact keep_cell hK3 (by assumption) (by rw [add_block]; exact hne5') | exact keep_cell (w := wr.drew) hK3 hcur (by rw [add_block]; exact hne5'))
            (first
              | (go_at_call 24; refine (src_next 1000000000 (w := wr.drew) (HS.out.below ((Below.refl _ _).drew)) (HB.out.drew) (by decide) (by decide) p l1 Hn1.out).mono ?_; rintro e w3 ⟨rfl, hS3, hB3, hK3⟩)
              | (refine Kd.R_append_step k61 (w0 := w3) (W := w3) w2.heap.size (by rfl) (.tmp 28) (.tmp 38) 38 61 (.agg #[.string ⟨#[]⟩, .int .i64 0, .int .i64 0]) 32 (by rfl) Try.underlying38 info61 rfl (by decide) (by decide) u4 done' ⟨cu, day, 1 + p⟩ [.string cu, .int .i64 day, .int .i64 (1 + p)] (fun _ => True) (fun _ => False) (by rfl) (by rfl) (k61_mkM w3 _ _ _) (fun _ h => h.elim) (fun _ _ => trivial) (R_keep_base (Kd.R_below HR.out ((Below.refl _ _).drew)) hK3 hgb) (Below.refl _ _) (Nat.le_trans HK.out.1 hK3.1) (by omega) ?_; intro v1 w5 hR1 hB1 hg1 hat1))
          clear hw1
          have HS5 := Aside0.mk (hS3.grown hg1 (fun e => by have := Kd.R_base HR.out _ e.symm; omega))
          have HB5' := Aside0.mk (hB3.grown hg1 (Nat.le_trans hB3.size (Nat.le_refl _)) (fun k hk => by have := Kd.R_base HR.out k hk; omega))
          have HK5 := Aside0.mk (keep_row (KeepBut.trans HK.out (KeepBut.trans (KeepBut.of_below ((Below.refl _ _).drew) _ none) hK3 (.inl rfl)) (.inl rfl)) hg1 (fun k hk => Kd.R_base HR.out k hk))
          have HR5 := Aside0.mk hR1
          clear hR1 hB1 hg1 hat1 hS3 hB3 hK3 HS HB HK HR
          go_wp2_with fail
          refine (src_next 20 HS5.out HB5'.out (by decide) (by decide) q l2 Hn2.out).mono ?_
          rintro e w6 ⟨rfl, hS6, hB6, hK6⟩
          have HR6 := Aside0.mk (R_keep_base HR5.out hK6 hgb)
          have HK6 := Aside0.mk (KeepBut.trans HK5.out hK6 (.inl rfl))
          have HS6 := Aside0.mk hS6
          have HB6 := Aside0.mk hB6
          clear hS6 hB6 hK6 HS5 HB5' HK5 HR5
          go_wp2
          go_roundw
          case rel => exact ⟨_, done' ++ [⟨cu, day, 1 + p⟩], day + 1 + q, m, l2, rfl, by go_num, by go_num, HR6, HS6, HB6, HK6, by simp; omega, by omega, by omega, ⟨by have := Hr.out; rw [Hcu.out] at *; simp [tabRow, Hn1.out, Hn2.out] at this; simpa using this⟩⟩
          case measure => simp [intOf]
    · have hlt' : decide ((i : Int) < 3) = false := decide_eq_false (by omega)
      go_wp2
      go_ret
      obtain rfl : i = 3 := by omega
      have e : done = r := by have := Hr.out; simpa [curs, tabAll] using this
      exact ⟨_, rfl, e ▸ Kd.R_lower HR.out (by omega), HB.out⟩

end Go.Proofs.Yteoieencagcgdaa.PX
end
