/- Texts of this session joined by a small program: plain Lean functions with the answers of Go functions of this seat, proofs that the machine's calls come to them, and plain laws over them that the claim InvoiceTotal uses. -/
import Derived.Below
import Derived.Deep.Draws
import Derived.Deep.AppendLies
import Derived.Maps.AppendAt
import Derived.OwnWalk
import Derived.Laws.BytesArg
import Derived.Laws.MakeOwn
import Derived.Laws.OwnMore
import Derived.Deep.OwnRows
import Derived.Tactics
import Derived.Lib.ConvBytes
import Derived.Laws.Slices
import Derived.WalkKit
import Derived.KernelRfl
import Derived.RowKit3
import Derived.Deep.LoopGhost
import Derived.Deep.QuietTactic
import Derived.BigQuiet
import Derived.WideLaws
import Derived.Deep.DeepCutAuto
import Derived.Deep.CutBlock
import Derived.Deep.RegionHeld3
import Derived.Laws.Rows
import Derived.Lib.AppendStr
import Derived.ArgAppend
import Derived.Laws.IdiomCopy
import Derived.RowKit
import Derived.OrdersHeld
import Derived.Laws.BitsLemmas
import Derived.Laws.StructEq
import Derived.Test.YteoieencagcgdaaProg
import Derived.RegionTactic
import Derived.Maps.Own
import Derived.Maps.OwnOps
import Derived.Maps.OwnSet
import Derived.Laws.Externs
import Derived.WalkLawsBesides
import Derived.Deep.RegionLaw
import Derived.IntWalk
import Derived.Laws.Bits64
import Derived.Sort.Walk0
import Derived.SizedLaws
import Derived.ChangeSlices
import Derived.Test.YteoieencagcgdaaMInvoiceTotal1
section
namespace Go.Proofs.Yteoieencagcgdaa.PX
open Go.RowKit Go.Proofs.YteoieencagcgdaaW.PrintWords Go.Proofs.YteoieencagcgdaaW.PrintLast Go.Proofs.YteoieencagcgdaaW.PrintMore
attribute [local go_sem] max2_int min2_int max_two min_two max_three min_three max_four min_four
set_option linter.unusedVariables false
set_option linter.unusedSimpArgs false

mutual
def bits_Div64.j2 : Nat → Int → Int → Int → Int → Int → Int → Int → Int → Option (Int × Int)
  | 0, _, _, _, _, _, _, _, _ => none
  | k + 1, x2, x8, x9, x10, x11, x13, x14, x15 => if x9 = 0 then (none) else (bits_Div64.l1 k x2 x8 x9 x10 x14 x15 (IntKind.u64.wrap ((IntKind.u64.wrap ((IntKind.u64.wrap ((IntKind.u64.wrap (x11 * 4294967296)) + x13)) - (IntKind.u64.wrap (x15 * x2)))) - (IntKind.u64.wrap ((IntKind.u64.wrap (Int.tdiv (IntKind.u64.wrap ((IntKind.u64.wrap ((IntKind.u64.wrap (x11 * 4294967296)) + x13)) - (IntKind.u64.wrap (x15 * x2)))) x9)) * x9)))) (IntKind.u64.wrap ((IntKind.u64.wrap ((IntKind.u64.wrap (x11 * 4294967296)) + x13)) - (IntKind.u64.wrap (x15 * x2)))) (IntKind.u64.wrap (Int.tdiv (IntKind.u64.wrap ((IntKind.u64.wrap ((IntKind.u64.wrap (x11 * 4294967296)) + x13)) - (IntKind.u64.wrap (x15 * x2)))) x9)))
def bits_Div64.l1 : Nat → Int → Int → Int → Int → Int → Int → Int → Int → Int → Option (Int × Int)
  | 0, _, _, _, _, _, _, _, _, _ => none
  | k + 1, x2, x8, x9, x10, x14, x15, x16, x17, x18 => if x18 ≥ 4294967296 then (bits_Div64.j4 k x2 x8 x9 x10 x14 x15 x16 x17 x18 true) else (bits_Div64.j4 k x2 x8 x9 x10 x14 x15 x16 x17 x18 (decide ((IntKind.u64.wrap (x18 * x10)) > (IntKind.u64.wrap ((IntKind.u64.wrap (4294967296 * x16)) + x14)))))
def bits_Div64.j4 : Nat → Int → Int → Int → Int → Int → Int → Int → Int → Int → Bool → Option (Int × Int)
  | 0, _, _, _, _, _, _, _, _, _, _ => none
  | k + 1, x2, x8, x9, x10, x14, x15, x16, x17, x18, x113 => if x113 = true then (if (IntKind.u64.wrap (x16 + x9)) ≥ 4294967296 then (if 0 ≤ x8 then (some (IntKind.u64.wrap ((IntKind.u64.wrap (x15 * 4294967296)) + (IntKind.u64.wrap (x18 - 1))), shr .u64 (IntKind.u64.wrap ((IntKind.u64.wrap ((IntKind.u64.wrap (x17 * 4294967296)) + x14)) - (IntKind.u64.wrap ((IntKind.u64.wrap (x18 - 1)) * x2)))) x8)) else (none)) else (bits_Div64.l1 k x2 x8 x9 x10 x14 x15 (IntKind.u64.wrap (x16 + x9)) x17 (IntKind.u64.wrap (x18 - 1)))) else (if 0 ≤ x8 then (some (IntKind.u64.wrap ((IntKind.u64.wrap (x15 * 4294967296)) + x18), shr .u64 (IntKind.u64.wrap ((IntKind.u64.wrap ((IntKind.u64.wrap (x17 * 4294967296)) + x14)) - (IntKind.u64.wrap (x18 * x2)))) x8)) else (none))
def bits_Div64.l0 : Nat → Int → Int → Int → Int → Int → Int → Int → Int → Int → Option (Int × Int)
  | 0, _, _, _, _, _, _, _, _, _ => none
  | k + 1, x2, x8, x9, x10, x11, x13, x14, x15, x16 => if x15 ≥ 4294967296 then (bits_Div64.j1 k x2 x8 x9 x10 x11 x13 x14 x15 x16 true) else (bits_Div64.j1 k x2 x8 x9 x10 x11 x13 x14 x15 x16 (decide ((IntKind.u64.wrap (x15 * x10)) > (IntKind.u64.wrap ((IntKind.u64.wrap (4294967296 * x16)) + x13)))))
def bits_Div64.j1 : Nat → Int → Int → Int → Int → Int → Int → Int → Int → Int → Bool → Option (Int × Int)
  | 0, _, _, _, _, _, _, _, _, _, _ => none
  | k + 1, x2, x8, x9, x10, x11, x13, x14, x15, x16, x78 => if x78 = true then (if (IntKind.u64.wrap (x16 + x9)) ≥ 4294967296 then (bits_Div64.j2 k x2 x8 x9 x10 x11 x13 x14 (IntKind.u64.wrap (x15 - 1))) else (bits_Div64.l0 k x2 x8 x9 x10 x11 x13 x14 (IntKind.u64.wrap (x15 - 1)) (IntKind.u64.wrap (x16 + x9)))) else (bits_Div64.j2 k x2 x8 x9 x10 x11 x13 x14 x15)
end
def bits_Div64.f (k : Nat) (a0 : Int) (a1 : Int) (a2 : Int) : Option (Int × Int) := if a2 = 0 then (none) else (if a2 ≤ a0 then (none) else (if a0 = 0 then (some (IntKind.u64.wrap (Int.tdiv a1 a2), Int.tmod a1 a2)) else ((bits_LeadingZeros64.f k a2).bind fun t193 => (if 0 ≤ (IntKind.u64.wrap (t193)) then (if 0 ≤ (IntKind.u64.wrap (64 - (IntKind.u64.wrap (t193)))) then (if ((shl .u64 a2 (IntKind.u64.wrap (t193))) / 4294967296) = 0 then (none) else (bits_Div64.l0 k (shl .u64 a2 (IntKind.u64.wrap (t193))) (IntKind.u64.wrap (t193)) ((shl .u64 a2 (IntKind.u64.wrap (t193))) / 4294967296) (Go.bits .and .u64 (shl .u64 a2 (IntKind.u64.wrap (t193))) 4294967295) (Go.bits .or .u64 (shl .u64 a0 (IntKind.u64.wrap (t193))) (shr .u64 a1 (IntKind.u64.wrap (64 - (IntKind.u64.wrap (t193)))))) ((shl .u64 a1 (IntKind.u64.wrap (t193))) / 4294967296) (Go.bits .and .u64 (shl .u64 a1 (IntKind.u64.wrap (t193))) 4294967295) (IntKind.u64.wrap (Int.tdiv (Go.bits .or .u64 (shl .u64 a0 (IntKind.u64.wrap (t193))) (shr .u64 a1 (IntKind.u64.wrap (64 - (IntKind.u64.wrap (t193)))))) ((shl .u64 a2 (IntKind.u64.wrap (t193))) / 4294967296))) (IntKind.u64.wrap ((Go.bits .or .u64 (shl .u64 a0 (IntKind.u64.wrap (t193))) (shr .u64 a1 (IntKind.u64.wrap (64 - (IntKind.u64.wrap (t193)))))) - (IntKind.u64.wrap ((IntKind.u64.wrap (Int.tdiv (Go.bits .or .u64 (shl .u64 a0 (IntKind.u64.wrap (t193))) (shr .u64 a1 (IntKind.u64.wrap (64 - (IntKind.u64.wrap (t193)))))) ((shl .u64 a2 (IntKind.u64.wrap (t193))) / 4294967296))) * ((shl .u64 a2 (IntKind.u64.wrap (t193))) / 4294967296))))))) else (none)) else (none)))))
set_option maxHeartbeats 8000000 in
set_option maxRecDepth 100000 in
theorem bits_Div64.calls (k : Nat) (a0 : Int) (a1 : Int) (a2 : Int) (r1 : Int) (r2 : Int) (w : World) (h : bits_Div64.f k a0 a1 a2 = some (r1, r2)) :
   Calls Try.prog 59 #[.int .u64 a0, .int .u64 a1, .int .u64 a2] w fun e w' => e = .returned (.tuple #[.int .u64 r1, .int .u64 r2]) ∧ Drawn0 w w' := by
  have H : (if a2 = 0 then (none) else (if a2 ≤ a0 then (none) else (if a0 = 0 then (some (IntKind.u64.wrap (Int.tdiv a1 a2), Int.tmod a1 a2)) else ((bits_LeadingZeros64.f k a2).bind fun t193 => (if 0 ≤ (IntKind.u64.wrap (t193)) then (if 0 ≤ (IntKind.u64.wrap (64 - (IntKind.u64.wrap (t193)))) then (if ((shl .u64 a2 (IntKind.u64.wrap (t193))) / 4294967296) = 0 then (none) else (bits_Div64.l0 k (shl .u64 a2 (IntKind.u64.wrap (t193))) (IntKind.u64.wrap (t193)) ((shl .u64 a2 (IntKind.u64.wrap (t193))) / 4294967296) (Go.bits .and .u64 (shl .u64 a2 (IntKind.u64.wrap (t193))) 4294967295) (Go.bits .or .u64 (shl .u64 a0 (IntKind.u64.wrap (t193))) (shr .u64 a1 (IntKind.u64.wrap (64 - (IntKind.u64.wrap (t193)))))) ((shl .u64 a1 (IntKind.u64.wrap (t193))) / 4294967296) (Go.bits .and .u64 (shl .u64 a1 (IntKind.u64.wrap (t193))) 4294967295) (IntKind.u64.wrap (Int.tdiv (Go.bits .or .u64 (shl .u64 a0 (IntKind.u64.wrap (t193))) (shr .u64 a1 (IntKind.u64.wrap (64 - (IntKind.u64.wrap (t193)))))) ((shl .u64 a2 (IntKind.u64.wrap (t193))) / 4294967296))) (IntKind.u64.wrap ((Go.bits .or .u64 (shl .u64 a0 (IntKind.u64.wrap (t193))) (shr .u64 a1 (IntKind.u64.wrap (64 - (IntKind.u64.wrap (t193)))))) - (IntKind.u64.wrap ((IntKind.u64.wrap (Int.tdiv (Go.bits .or .u64 (shl .u64 a0 (IntKind.u64.wrap (t193))) (shr .u64 a1 (IntKind.u64.wrap (64 - (IntKind.u64.wrap (t193)))))) ((shl .u64 a2 (IntKind.u64.wrap (t193))) / 4294967296))) * ((shl .u64 a2 (IntKind.u64.wrap (t193))) / 4294967296))))))) else (none)) else (none)))))) = some (r1, r2) := h
  clear h
  by_cases c4 : a2 = 0
  ·rw [if_pos c4] at H
   exact absurd H (by simp)
  ·rw [if_neg c4] at H
   have c4b0 : (a2 == 0) = false := beq_eq_false_iff_ne.mpr c4
   have c4b1 : (a2 != 0) = true := bne_iff_ne.mpr c4
   by_cases c5 : a2 ≤ a0
   ·rw [if_pos c5] at H
    exact absurd H (by simp)
   ·rw [if_neg c5] at H
    have c5b0 : decide (a2 ≤ a0) = false := decide_eq_false c5
    clear c5
    by_cases c6 : a0 = 0
    ·rw [if_pos c6] at H
     have c6b0 : (a0 == 0) = true := beq_iff_eq.mpr c6
     have c6b1 : (a0 != 0) = false := bne_eq_false_iff_eq.mpr c6
     clear c6
     simp only [Option.some.injEq, Prod.mk.injEq] at H
     obtain ⟨rfl, rfl⟩ := H
     go_enter Try.func59, Try.ntmps59
     go_wp2
     repeat (go_quiet (fail); try go_wp2)
     go_ret2
     exact ⟨by first | rfl | (simp; done) | (simp [*]; done), by repeat (first | exact Drawn0.refl _ | apply Drawn0.step)⟩
    ·rw [if_neg c6] at H
     have c6b0 : (a0 == 0) = false := beq_eq_false_iff_ne.mpr c6
     have c6b1 : (a0 != 0) = true := bne_iff_ne.mpr c6
     replace H := Option.bind_eq_some_iff.mp H
     obtain ⟨t193, A70, H⟩ := H
     replace H : (if 0 ≤ (IntKind.u64.wrap (t193)) then (if 0 ≤ (IntKind.u64.wrap (64 - (IntKind.u64.wrap (t193)))) then (if ((shl .u64 a2 (IntKind.u64.wrap (t193))) / 4294967296) = 0 then (none) else (bits_Div64.l0 k (shl .u64 a2 (IntKind.u64.wrap (t193))) (IntKind.u64.wrap (t193)) ((shl .u64 a2 (IntKind.u64.wrap (t193))) / 4294967296) (Go.bits .and .u64 (shl .u64 a2 (IntKind.u64.wrap (t193))) 4294967295) (Go.bits .or .u64 (shl .u64 a0 (IntKind.u64.wrap (t193))) (shr .u64 a1 (IntKind.u64.wrap (64 - (IntKind.u64.wrap (t193)))))) ((shl .u64 a1 (IntKind.u64.wrap (t193))) / 4294967296) (Go.bits .and .u64 (shl .u64 a1 (IntKind.u64.wrap (t193))) 4294967295) (IntKind.u64.wrap (Int.tdiv (Go.bits .or .u64 (shl .u64 a0 (IntKind.u64.wrap (t193))) (shr .u64 a1 (IntKind.u64.wrap (64 - (IntKind.u64.wrap (t193)))))) ((shl .u64 a2 (IntKind.u64.wrap (t193))) / 4294967296))) (IntKind.u64.wrap ((Go.bits .or .u64 (shl .u64 a0 (IntKind.u64.wrap (t193))) (shr .u64 a1 (IntKind.u64.wrap (64 - (IntKind.u64.wrap (t193)))))) - (IntKind.u64.wrap ((IntKind.u64.wrap (Int.tdiv (Go.bits .or .u64 (shl .u64 a0 (IntKind.u64.wrap (t193))) (shr .u64 a1 (IntKind.u64.wrap (64 - (IntKind.u64.wrap (t193)))))) ((shl .u64 a2 (IntKind.u64.wrap (t193))) / 4294967296))) * ((shl .u64 a2 (IntKind.u64.wrap (t193))) / 4294967296))))))) else (none)) else (none)) = some (r1, r2) := H
     have A7 := Aside0.mk A70
     clear A70
     obtain ⟨ji8, hji8⟩ : ∃ j_ : Int, (IntKind.u64.wrap (t193)) = j_ := ⟨_, rfl⟩
     replace H : (if 0 ≤ (ji8) then (if 0 ≤ (IntKind.u64.wrap (64 - (ji8))) then (if ((shl .u64 a2 (ji8)) / 4294967296) = 0 then (none) else (bits_Div64.l0 k (shl .u64 a2 (ji8)) ji8 ((shl .u64 a2 (ji8)) / 4294967296) (Go.bits .and .u64 (shl .u64 a2 (ji8)) 4294967295) (Go.bits .or .u64 (shl .u64 a0 (ji8)) (shr .u64 a1 (IntKind.u64.wrap (64 - (ji8))))) ((shl .u64 a1 (ji8)) / 4294967296) (Go.bits .and .u64 (shl .u64 a1 (ji8)) 4294967295) (IntKind.u64.wrap (Int.tdiv (Go.bits .or .u64 (shl .u64 a0 (ji8)) (shr .u64 a1 (IntKind.u64.wrap (64 - (ji8))))) ((shl .u64 a2 (ji8)) / 4294967296))) (IntKind.u64.wrap ((Go.bits .or .u64 (shl .u64 a0 (ji8)) (shr .u64 a1 (IntKind.u64.wrap (64 - (ji8))))) - (IntKind.u64.wrap ((IntKind.u64.wrap (Int.tdiv (Go.bits .or .u64 (shl .u64 a0 (ji8)) (shr .u64 a1 (IntKind.u64.wrap (64 - (ji8))))) ((shl .u64 a2 (ji8)) / 4294967296))) * ((shl .u64 a2 (ji8)) / 4294967296))))))) else (none)) else (none)) = some (r1, r2) := by first | (rw [hji8] at H; exact H) | (simp only [hji8] at H ⊢; exact H)
     (try rw [hji8] at A7)
     by_cases c9 : 0 ≤ (ji8)
     ·rw [if_pos c9] at H
      have c9b0 := eq_true c9
      have c9b1 : decide (0 ≤ (ji8)) = true := decide_eq_true c9
      clear c9
      obtain ⟨ji10, hji10⟩ : ∃ j_ : Int, (shl .u64 a2 (ji8)) = j_ := ⟨_, rfl⟩
      replace H : (if 0 ≤ (IntKind.u64.wrap (64 - (ji8))) then (if ((ji10) / 4294967296) = 0 then (none) else (bits_Div64.l0 k ji10 ji8 ((ji10) / 4294967296) (Go.bits .and .u64 (ji10) 4294967295) (Go.bits .or .u64 (shl .u64 a0 (ji8)) (shr .u64 a1 (IntKind.u64.wrap (64 - (ji8))))) ((shl .u64 a1 (ji8)) / 4294967296) (Go.bits .and .u64 (shl .u64 a1 (ji8)) 4294967295) (IntKind.u64.wrap (Int.tdiv (Go.bits .or .u64 (shl .u64 a0 (ji8)) (shr .u64 a1 (IntKind.u64.wrap (64 - (ji8))))) ((ji10) / 4294967296))) (IntKind.u64.wrap ((Go.bits .or .u64 (shl .u64 a0 (ji8)) (shr .u64 a1 (IntKind.u64.wrap (64 - (ji8))))) - (IntKind.u64.wrap ((IntKind.u64.wrap (Int.tdiv (Go.bits .or .u64 (shl .u64 a0 (ji8)) (shr .u64 a1 (IntKind.u64.wrap (64 - (ji8))))) ((ji10) / 4294967296))) * ((ji10) / 4294967296))))))) else (none)) = some (r1, r2) := by first | (rw [hji10] at H; exact H) | (simp only [hji10] at H ⊢; exact H)
      (try rw [hji10] at A7)
      have hji10_ : (IntKind.u64.wrap (a2 * 2 ^ min (ji8).toNat 64)) = ji10 := hji10
      have hji10z : (ji8) ≤ 64 → (IntKind.u64.wrap (a2 * 2 ^ (ji8).toNat)) = ji10 := shl_small hji10
      have c11b0 := eq_true (of_decide_eq_true (by first | (with_reducible assumption) | assumption) : 0 ≤ (ji8))
      obtain ⟨ji12, hji12⟩ : ∃ j_ : Int, (shl .u64 a0 (ji8)) = j_ := ⟨_, rfl⟩
      replace H : (if 0 ≤ (IntKind.u64.wrap (64 - (ji8))) then (if ((ji10) / 4294967296) = 0 then (none) else (bits_Div64.l0 k ji10 ji8 ((ji10) / 4294967296) (Go.bits .and .u64 (ji10) 4294967295) (Go.bits .or .u64 (ji12) (shr .u64 a1 (IntKind.u64.wrap (64 - (ji8))))) ((shl .u64 a1 (ji8)) / 4294967296) (Go.bits .and .u64 (shl .u64 a1 (ji8)) 4294967295) (IntKind.u64.wrap (Int.tdiv (Go.bits .or .u64 (ji12) (shr .u64 a1 (IntKind.u64.wrap (64 - (ji8))))) ((ji10) / 4294967296))) (IntKind.u64.wrap ((Go.bits .or .u64 (ji12) (shr .u64 a1 (IntKind.u64.wrap (64 - (ji8))))) - (IntKind.u64.wrap ((IntKind.u64.wrap (Int.tdiv (Go.bits .or .u64 (ji12) (shr .u64 a1 (IntKind.u64.wrap (64 - (ji8))))) ((ji10) / 4294967296))) * ((ji10) / 4294967296))))))) else (none)) = some (r1, r2) := by first | (rw [hji12] at H; exact H) | (simp only [hji12] at H ⊢; exact H)
      (try rw [hji12] at A7)
      have hji12_ : (IntKind.u64.wrap (a0 * 2 ^ min (ji8).toNat 64)) = ji12 := hji12
      have hji12z : (ji8) ≤ 64 → (IntKind.u64.wrap (a0 * 2 ^ (ji8).toNat)) = ji12 := shl_small hji12
      obtain ⟨ji13, hji13⟩ : ∃ j_ : Int, (IntKind.u64.wrap (64 - (ji8))) = j_ := ⟨_, rfl⟩
      replace H : (if 0 ≤ (ji13) then (if ((ji10) / 4294967296) = 0 then (none) else (bits_Div64.l0 k ji10 ji8 ((ji10) / 4294967296) (Go.bits .and .u64 (ji10) 4294967295) (Go.bits .or .u64 (ji12) (shr .u64 a1 (ji13))) ((shl .u64 a1 (ji8)) / 4294967296) (Go.bits .and .u64 (shl .u64 a1 (ji8)) 4294967295) (IntKind.u64.wrap (Int.tdiv (Go.bits .or .u64 (ji12) (shr .u64 a1 (ji13))) ((ji10) / 4294967296))) (IntKind.u64.wrap ((Go.bits .or .u64 (ji12) (shr .u64 a1 (ji13))) - (IntKind.u64.wrap ((IntKind.u64.wrap (Int.tdiv (Go.bits .or .u64 (ji12) (shr .u64 a1 (ji13))) ((ji10) / 4294967296))) * ((ji10) / 4294967296))))))) else (none)) = some (r1, r2) := by first | (rw [hji13] at H; exact H) | (simp only [hji13] at H ⊢; exact H)
      (try rw [hji13] at A7)
      by_cases c14 : 0 ≤ (ji13)
      ·rw [if_pos c14] at H
       have c14b0 := eq_true c14
       have c14b1 : decide (0 ≤ (ji13)) = true := decide_eq_true c14
       clear c14
       obtain ⟨ji15, hji15⟩ : ∃ j_ : Int, (shr .u64 a1 (ji13)) = j_ := ⟨_, rfl⟩
       replace H : (if ((ji10) / 4294967296) = 0 then (none) else (bits_Div64.l0 k ji10 ji8 ((ji10) / 4294967296) (Go.bits .and .u64 (ji10) 4294967295) (Go.bits .or .u64 (ji12) (ji15)) ((shl .u64 a1 (ji8)) / 4294967296) (Go.bits .and .u64 (shl .u64 a1 (ji8)) 4294967295) (IntKind.u64.wrap (Int.tdiv (Go.bits .or .u64 (ji12) (ji15)) ((ji10) / 4294967296))) (IntKind.u64.wrap ((Go.bits .or .u64 (ji12) (ji15)) - (IntKind.u64.wrap ((IntKind.u64.wrap (Int.tdiv (Go.bits .or .u64 (ji12) (ji15)) ((ji10) / 4294967296))) * ((ji10) / 4294967296))))))) = some (r1, r2) := by first | (rw [hji15] at H; exact H) | (simp only [hji15] at H ⊢; exact H)
       (try rw [hji15] at A7)
       have hji15_ : (a1 / 2 ^ min (ji13).toNat 64) = ji15 := hji15
       have hji15z : (ji13) ≤ 64 → (a1 / 2 ^ (ji13).toNat) = ji15 := shr_small hji15
       have c16b0 := eq_true (of_decide_eq_true (by first | (with_reducible assumption) | assumption) : 0 ≤ (ji8))
       obtain ⟨ji17, hji17⟩ : ∃ j_ : Int, (shl .u64 a1 (ji8)) = j_ := ⟨_, rfl⟩
       replace H : (if ((ji10) / 4294967296) = 0 then (none) else (bits_Div64.l0 k ji10 ji8 ((ji10) / 4294967296) (Go.bits .and .u64 (ji10) 4294967295) (Go.bits .or .u64 (ji12) (ji15)) ((ji17) / 4294967296) (Go.bits .and .u64 (ji17) 4294967295) (IntKind.u64.wrap (Int.tdiv (Go.bits .or .u64 (ji12) (ji15)) ((ji10) / 4294967296))) (IntKind.u64.wrap ((Go.bits .or .u64 (ji12) (ji15)) - (IntKind.u64.wrap ((IntKind.u64.wrap (Int.tdiv (Go.bits .or .u64 (ji12) (ji15)) ((ji10) / 4294967296))) * ((ji10) / 4294967296))))))) = some (r1, r2) := by first | (rw [hji17] at H; exact H) | (simp only [hji17] at H ⊢; exact H)
       (try rw [hji17] at A7)
       have hji17_ : (IntKind.u64.wrap (a1 * 2 ^ min (ji8).toNat 64)) = ji17 := hji17
       have hji17z : (ji8) ≤ 64 → (IntKind.u64.wrap (a1 * 2 ^ (ji8).toNat)) = ji17 := shl_small hji17
       by_cases c18 : ((ji10) / 4294967296) = 0
       ·rw [if_pos c18] at H
        exact absurd H (by simp)
       ·rw [if_neg c18] at H
        have c18b0 : (((ji10) / 4294967296) == 0) = false := beq_eq_false_iff_ne.mpr c18
        have c18b1 : (((ji10) / 4294967296) != 0) = true := bne_iff_ne.mpr c18
        have HC19 := Aside0.mk H
        clear H
        go_enter Try.func59, Try.ntmps59
        go_upto_block 0 with (first | (go_at_call 67; (with_reducible refine (bits_LeadingZeros64.calls k a2 t193 _ A7.out).mono ?_); rintro e w' ⟨rfl, ⟨nd, rfl⟩⟩; (try first | exact ⟨rfl, _, World.drewN_drewN _ _ _⟩ | exact ⟨rfl, _, Eq.trans (World.drewN_drewN _ _ _) (congrArg (World.drewN _) (Nat.add_assoc _ _ _))⟩)))
        repeat (go_quiet (first | (go_at_call 67; (with_reducible refine (bits_LeadingZeros64.calls k a2 t193 _ A7.out).mono ?_); rintro e w' ⟨rfl, ⟨nd, rfl⟩⟩; (try first | exact ⟨rfl, _, World.drewN_drewN _ _ _⟩ | exact ⟨rfl, _, Eq.trans (World.drewN_drewN _ _ _) (congrArg (World.drewN _) (Nat.add_assoc _ _ _))⟩))); go_upto_block 0 with (first | (go_at_call 67; (with_reducible refine (bits_LeadingZeros64.calls k a2 t193 _ A7.out).mono ?_); rintro e w' ⟨rfl, ⟨nd, rfl⟩⟩; (try first | exact ⟨rfl, _, World.drewN_drewN _ _ _⟩ | exact ⟨rfl, _, Eq.trans (World.drewN_drewN _ _ _) (congrArg (World.drewN _) (Nat.add_assoc _ _ _))⟩))))
        (try simp only [Act.put, List.setIfInBounds_toArray, List.set_cons_zero, List.set_cons_succ])
        go_cut [15] (fun v15 wc => ∃ (kq : Nat) (x15_18 : Int), v15 = .int .u64 x15_18 ∧ Aside0 (bits_Div64.j2 kq ji10 ji8 ((ji10) / 4294967296) (Go.bits .and .u64 (ji10) 4294967295) (Go.bits .or .u64 (ji12) (ji15)) ((ji17) / 4294967296) (Go.bits .and .u64 (ji17) 4294967295) x15_18 = some (r1, r2)) ∧ Aside0 (kq ≤ k) ∧ Drawn0 w wc)
        case first =>
         have H := HC19.out
         clear HC19
         have H' := Aside0.mk H
         clear H
         go_wp2
         repeat (go_quiet (fail); try go_wp2)
         go_loopg [15, 16] k (fun kq v15 v16 w' => ∃ (x15_1 : Int) (x16_1 : Int), v15 = .int .u64 x15_1 ∧ v16 = .int .u64 x16_1 ∧ Aside0 (bits_Div64.l0 kq ji10 ji8 ((ji10) / 4294967296) (Go.bits .and .u64 (ji10) 4294967295) (Go.bits .or .u64 (ji12) (ji15)) ((ji17) / 4294967296) (Go.bits .and .u64 (ji17) 4294967295) x15_1 x16_1 = some (r1, r2)) ∧ Aside0 (kq ≤ k) ∧ Drawn0 w w')
         case atStart => exact ⟨(IntKind.u64.wrap (Int.tdiv (Go.bits .or .u64 (ji12) (ji15)) ((ji10) / 4294967296))), (IntKind.u64.wrap ((Go.bits .or .u64 (ji12) (ji15)) - (IntKind.u64.wrap ((IntKind.u64.wrap (Int.tdiv (Go.bits .or .u64 (ji12) (ji15)) ((ji10) / 4294967296))) * ((ji10) / 4294967296))))), (by first | rfl | (simp; done) | (simp only [← hji10, ← hji12, ← hji15] <;> (first | rfl | simp)) | (simp [*]; done)), (by first | rfl | (simp; done) | (simp only [← hji10, ← hji12, ← hji15] <;> (first | rfl | simp)) | (simp [*]; done)), H', ⟨Nat.le_refl _⟩, by repeat (first | exact Drawn0.refl _ | apply Drawn0.step)⟩
         case round =>
          clear H'
          try clear c1
          try clear p2
          try clear c4
          try clear c4b0
          try clear c4b1
          try clear c5
          try clear c5b0
          try clear c6
          try clear c6b0
          try clear c6b1
          try clear c9
          try clear c9b0
          try clear c9b1
          try clear c11
          try clear c11b0
          try clear c14
          try clear c14b0
          try clear c14b1
          try clear c16
          try clear c16b0
          try clear c18
          try clear c18b0
          try clear c18b1
          obtain ⟨x15_1, x16_1, rfl, rfl, HA, HK1, ⟨m1, rfl⟩⟩ := hrel
          cases gk with
          | zero => exact absurd HA.out (by simp [bits_Div64.l0])
          | succ k1 =>
           have H := HA.out
           clear HA
           simp only [bits_Div64.l0] at H
           have HC20 := Aside0.mk H
           clear H
           go_upto_region 17 with (fail)
           repeat (go_quiet (fail); go_upto_region 17 with (fail))
           go_cut [78] (fun v78 wc => ∃ (kq : Nat) (x78_19 : Bool), v78 = .bool x78_19 ∧ Aside0 (bits_Div64.j1 kq ji10 ji8 ((ji10) / 4294967296) (Go.bits .and .u64 (ji10) 4294967295) (Go.bits .or .u64 (ji12) (ji15)) ((ji17) / 4294967296) (Go.bits .and .u64 (ji17) 4294967295) x15_1 x16_1 x78_19 = some (r1, r2)) ∧ Aside0 (kq ≤ k1) ∧ Drawn0 w wc)
           case first =>
            have H := HC20.out
            clear HC20
            by_cases c21 : x15_1 ≥ 4294967296
            ·rw [if_pos c21] at H
             have c21b0 : decide (4294967296 ≤ x15_1) = true := decide_eq_true c21
             clear c21
             (first | rw [c21b0] | (simp only [i64_w, i32_w]; rw [c21b0]) | skip)
             have H' := Aside0.mk H
             clear H
             go_wp2
             repeat (go_quiet (fail); try go_wp2)
             go_meet
             case rel => exact ⟨_, (true), (by first | rfl | (simp; done) | (simp [*]; done)), H', ⟨by have := HK1.out; first | omega | exact Nat.le_refl _⟩, by repeat (first | exact Drawn0.refl _ | apply Drawn0.step)⟩
            ·rw [if_neg c21] at H
             have c21b0 : decide (4294967296 ≤ x15_1) = false := decide_eq_false c21
             clear c21
             (first | rw [c21b0] | (simp only [i64_w, i32_w]; rw [c21b0]) | skip)
             have H' := Aside0.mk H
             clear H
             go_wp2
             repeat (go_quiet (fail); try go_wp2)
             go_meet
             case rel => exact ⟨_, (decide ((IntKind.u64.wrap (x15_1 * (Go.bits .and .u64 (ji10) 4294967295))) > (IntKind.u64.wrap ((IntKind.u64.wrap (4294967296 * x16_1)) + ((ji17) / 4294967296))))), (by first | rfl | (simp; done) | (simp only [← hji10, ← hji17] <;> (first | rfl | simp)) | (simp [*]; done)), H', ⟨by have := HK1.out; first | omega | exact Nat.le_refl _⟩, by repeat (first | exact Drawn0.refl _ | apply Drawn0.step)⟩
           case rest =>
            clear HC20
            try clear c1
            try clear c2
            try clear p2
            try clear c4
            try clear c4b0
            try clear c4b1
            try clear c5
            try clear c5b0
            try clear c6
            try clear c6b0
            try clear c6b1
            try clear c9
            try clear c9b0
            try clear c9b1
            try clear c11
            try clear c11b0
            try clear c14
            try clear c14b0
            try clear c14b1
            try clear c16
            try clear c16b0
            try clear c18
            try clear c18b0
            try clear c18b1
            try clear c21
            try clear c21b0
            try clear p2
            obtain ⟨kq, x78_19, rfl, HA, HJ19, ⟨mc19, rfl⟩⟩ := hcut
            cases kq with
            | zero => exact absurd HA.out (by simp [bits_Div64.j1])
            | succ kj19 =>
             have H := HA.out
             clear HA
             simp only [bits_Div64.j1] at H
             by_cases c22 : x78_19 = true
             ·subst c22
              have H1 : (if (IntKind.u64.wrap (x16_1 + ((ji10) / 4294967296))) ≥ 4294967296 then (bits_Div64.j2 kj19 ji10 ji8 ((ji10) / 4294967296) (Go.bits .and .u64 (ji10) 4294967295) (Go.bits .or .u64 (ji12) (ji15)) ((ji17) / 4294967296) (Go.bits .and .u64 (ji17) 4294967295) (IntKind.u64.wrap (x15_1 - 1))) else (bits_Div64.l0 kj19 ji10 ji8 ((ji10) / 4294967296) (Go.bits .and .u64 (ji10) 4294967295) (Go.bits .or .u64 (ji12) (ji15)) ((ji17) / 4294967296) (Go.bits .and .u64 (ji17) 4294967295) (IntKind.u64.wrap (x15_1 - 1)) (IntKind.u64.wrap (x16_1 + ((ji10) / 4294967296))))) = some (r1, r2) := by rw [if_pos rfl] at H; exact H
              clear H
              have H := H1
              clear H1
              by_cases c23 : (IntKind.u64.wrap (x16_1 + ((ji10) / 4294967296))) ≥ 4294967296
              ·rw [if_pos c23] at H
               have c23b0 : decide (4294967296 ≤ (IntKind.u64.wrap (x16_1 + ((ji10) / 4294967296)))) = true := decide_eq_true c23
               clear c23
               have H' := Aside0.mk H
               clear H
               go_wp2
               repeat (go_quiet (fail); try go_wp2)
               go_meet
               case rel => exact ⟨_, (IntKind.u64.wrap (x15_1 - 1)), (by first | rfl | (simp; done) | (simp [*]; done)), H', ⟨by have := HK1.out; have := HJ19.out; first | omega | exact Nat.le_refl _⟩, by repeat (first | exact Drawn0.refl _ | apply Drawn0.step)⟩
              ·rw [if_neg c23] at H
               have c23b0 : decide (4294967296 ≤ (IntKind.u64.wrap (x16_1 + ((ji10) / 4294967296)))) = false := decide_eq_false c23
               clear c23
               have H' := Aside0.mk H
               clear H
               go_wp2
               repeat (go_quiet (fail); try go_wp2)
               go_roundg kj19
               case measure => have := HK1.out; have := HJ19.out; omega
               case rel => exact ⟨(IntKind.u64.wrap (x15_1 - 1)), (IntKind.u64.wrap (x16_1 + ((ji10) / 4294967296))), (by first | rfl | (simp; done) | (simp [*]; done)), (by first | rfl | (simp; done) | (simp only [← hji10] <;> (first | rfl | simp)) | (simp [*]; done)), H', ⟨by have := HK1.out; have := HJ19.out; omega⟩, by repeat (first | exact Drawn0.refl _ | apply Drawn0.step)⟩
             ·replace c22 := Bool.eq_false_iff.mpr c22
              subst c22
              have H1 : (bits_Div64.j2 kj19 ji10 ji8 ((ji10) / 4294967296) (Go.bits .and .u64 (ji10) 4294967295) (Go.bits .or .u64 (ji12) (ji15)) ((ji17) / 4294967296) (Go.bits .and .u64 (ji17) 4294967295) x15_1) = some (r1, r2) := by rw [if_neg (show ¬ (false = true) by decide)] at H; exact H
              clear H
              have H := H1
              clear H1
              have H' := Aside0.mk H
              clear H
              go_wp2
              repeat (go_quiet (fail); try go_wp2)
              go_meet
              case rel => exact ⟨_, (x15_1), (by first | rfl | (simp; done) | (simp [*]; done)), H', ⟨by have := HK1.out; have := HJ19.out; first | omega | exact Nat.le_refl _⟩, by repeat (first | exact Drawn0.refl _ | apply Drawn0.step)⟩
        case rest =>
         clear HC19
         try clear c1
         try clear c2
         try clear p2
         try clear c4
         try clear c4b0
         try clear c4b1
         try clear c5
         try clear c5b0
         try clear c6
         try clear c6b0
         try clear c6b1
         try clear c9
         try clear c9b0
         try clear c9b1
         try clear c11
         try clear c11b0
         try clear c14
         try clear c14b0
         try clear c14b1
         try clear c16
         try clear c16b0
         try clear c18
         try clear c18b0
         try clear c18b1
         try clear c19
         try clear c21
         try clear c21b0
         try clear c22
         try clear c23
         try clear c23b0
         try clear p2
         obtain ⟨kq, x15_18, rfl, HA, HJ18, ⟨mc18, rfl⟩⟩ := hcut
         cases kq with
         | zero => exact absurd HA.out (by simp [bits_Div64.j2])
         | succ kj18 =>
          have H := HA.out
          clear HA
          simp only [bits_Div64.j2] at H
          by_cases c24 : ((ji10) / 4294967296) = 0
          ·rw [if_pos c24] at H
           exact absurd H (by simp)
          ·rw [if_neg c24] at H
           have c24b0 : (((ji10) / 4294967296) == 0) = false := beq_eq_false_iff_ne.mpr c24
           have c24b1 : (((ji10) / 4294967296) != 0) = true := bne_iff_ne.mpr c24
           have H' := Aside0.mk H
           clear H
           go_wp2
           repeat (go_quiet (fail); try go_wp2)
           go_loopg [16, 18] kj18 (fun kq v16 v18 w' => ∃ (x16_2 : Int) (x18_2 : Int), v16 = .int .u64 x16_2 ∧ v18 = .int .u64 x18_2 ∧ Aside0 (bits_Div64.l1 kq ji10 ji8 ((ji10) / 4294967296) (Go.bits .and .u64 (ji10) 4294967295) (Go.bits .and .u64 (ji17) 4294967295) x15_18 x16_2 (IntKind.u64.wrap ((IntKind.u64.wrap ((IntKind.u64.wrap ((Go.bits .or .u64 (ji12) (ji15)) * 4294967296)) + ((ji17) / 4294967296))) - (IntKind.u64.wrap (x15_18 * ji10)))) x18_2 = some (r1, r2)) ∧ Aside0 (kq ≤ kj18) ∧ Drawn0 w w')
           case atStart => exact ⟨(IntKind.u64.wrap ((IntKind.u64.wrap ((IntKind.u64.wrap ((IntKind.u64.wrap ((Go.bits .or .u64 (ji12) (ji15)) * 4294967296)) + ((ji17) / 4294967296))) - (IntKind.u64.wrap (x15_18 * ji10)))) - (IntKind.u64.wrap ((IntKind.u64.wrap (Int.tdiv (IntKind.u64.wrap ((IntKind.u64.wrap ((IntKind.u64.wrap ((Go.bits .or .u64 (ji12) (ji15)) * 4294967296)) + ((ji17) / 4294967296))) - (IntKind.u64.wrap (x15_18 * ji10)))) ((ji10) / 4294967296))) * ((ji10) / 4294967296))))), (IntKind.u64.wrap (Int.tdiv (IntKind.u64.wrap ((IntKind.u64.wrap ((IntKind.u64.wrap ((Go.bits .or .u64 (ji12) (ji15)) * 4294967296)) + ((ji17) / 4294967296))) - (IntKind.u64.wrap (x15_18 * ji10)))) ((ji10) / 4294967296))), (by first | rfl | (simp; done) | (simp only [← hji10, ← hji12, ← hji15, ← hji17] <;> (first | rfl | simp)) | (simp [*]; done)), (by first | rfl | (simp; done) | (simp only [← hji10, ← hji12, ← hji15, ← hji17] <;> (first | rfl | simp)) | (simp [*]; done)), H', ⟨Nat.le_refl _⟩, by repeat (first | exact Drawn0.refl _ | apply Drawn0.step)⟩
           case round =>
            clear H'
            try clear c1
            try clear c2
            try clear p2
            try clear c4
            try clear c4b0
            try clear c4b1
            try clear c5
            try clear c5b0
            try clear c6
            try clear c6b0
            try clear c6b1
            try clear c9
            try clear c9b0
            try clear c9b1
            try clear c11
            try clear c11b0
            try clear c14
            try clear c14b0
            try clear c14b1
            try clear c16
            try clear c16b0
            try clear c18
            try clear c18b0
            try clear c18b1
            try clear c19
            try clear c21
            try clear c21b0
            try clear c22
            try clear c23
            try clear c23b0
            try clear c24
            try clear c24b0
            try clear c24b1
            try clear p2
            obtain ⟨x16_2, x18_2, rfl, rfl, HA, HK2, ⟨m2, rfl⟩⟩ := hrel
            cases gk with
            | zero => exact absurd HA.out (by simp [bits_Div64.l1])
            | succ k2 =>
             have H := HA.out
             clear HA
             simp only [bits_Div64.l1] at H
             have HC25 := Aside0.mk H
             clear H
             go_upto_region 24 with (fail)
             repeat (go_quiet (fail); go_upto_region 24 with (fail))
             go_cut [113] (fun v113 wc => ∃ (kq : Nat) (x113_24 : Bool), v113 = .bool x113_24 ∧ Aside0 (bits_Div64.j4 kq ji10 ji8 ((ji10) / 4294967296) (Go.bits .and .u64 (ji10) 4294967295) (Go.bits .and .u64 (ji17) 4294967295) x15_18 x16_2 (IntKind.u64.wrap ((IntKind.u64.wrap ((IntKind.u64.wrap ((Go.bits .or .u64 (ji12) (ji15)) * 4294967296)) + ((ji17) / 4294967296))) - (IntKind.u64.wrap (x15_18 * ji10)))) x18_2 x113_24 = some (r1, r2)) ∧ Aside0 (kq ≤ k2) ∧ Drawn0 w wc)
             case first =>
              have H := HC25.out
              clear HC25
              by_cases c26 : x18_2 ≥ 4294967296
              ·rw [if_pos c26] at H
               have c26b0 : decide (4294967296 ≤ x18_2) = true := decide_eq_true c26
               clear c26
               (first | rw [c26b0] | (simp only [i64_w, i32_w]; rw [c26b0]) | skip)
               have H' := Aside0.mk H
               clear H
               go_wp2
               repeat (go_quiet (fail); try go_wp2)
               go_meet
               case rel => exact ⟨_, (true), (by first | rfl | (simp; done) | (simp [*]; done)), H', ⟨by have := HJ18.out; have := HK2.out; first | omega | exact Nat.le_refl _⟩, by repeat (first | exact Drawn0.refl _ | apply Drawn0.step)⟩
              ·rw [if_neg c26] at H
               have c26b0 : decide (4294967296 ≤ x18_2) = false := decide_eq_false c26
               clear c26
               (first | rw [c26b0] | (simp only [i64_w, i32_w]; rw [c26b0]) | skip)
               have H' := Aside0.mk H
               clear H
               go_wp2
               repeat (go_quiet (fail); try go_wp2)
               go_meet
               case rel => exact ⟨_, (decide ((IntKind.u64.wrap (x18_2 * (Go.bits .and .u64 (ji10) 4294967295))) > (IntKind.u64.wrap ((IntKind.u64.wrap (4294967296 * x16_2)) + (Go.bits .and .u64 (ji17) 4294967295))))), (by first | rfl | (simp; done) | (simp only [← hji10, ← hji17] <;> (first | rfl | simp)) | (simp [*]; done)), H', ⟨by have := HJ18.out; have := HK2.out; first | omega | exact Nat.le_refl _⟩, by repeat (first | exact Drawn0.refl _ | apply Drawn0.step)⟩
             case rest =>
              clear HC25
              try clear c1
              try clear c2
              try clear p2
              try clear c4
              try clear c4b0
              try clear c4b1
              try clear c5
              try clear c5b0
              try clear c6
              try clear c6b0
              try clear c6b1
              try clear c9
              try clear c9b0
              try clear c9b1
              try clear c11
              try clear c11b0
              try clear c14
              try clear c14b0
              try clear c14b1
              try clear c16
              try clear c16b0
              try clear c18
              try clear c18b0
              try clear c18b1
              try clear c19
              try clear c21
              try clear c21b0
              try clear c22
              try clear c23
              try clear c23b0
              try clear c24
              try clear c24b0
              try clear c24b1
              try clear c26
              try clear c26b0
              try clear p2
              obtain ⟨kq, x113_24, rfl, HA, HJ24, ⟨mc24, rfl⟩⟩ := hcut
              cases kq with
              | zero => exact absurd HA.out (by simp [bits_Div64.j4])
              | succ kj24 =>
               have H := HA.out
               clear HA
               simp only [bits_Div64.j4] at H
               by_cases c27 : x113_24 = true
               ·subst c27
                have H1 : (if (IntKind.u64.wrap (x16_2 + ((ji10) / 4294967296))) ≥ 4294967296 then (if 0 ≤ ji8 then (some (IntKind.u64.wrap ((IntKind.u64.wrap (x15_18 * 4294967296)) + (IntKind.u64.wrap (x18_2 - 1))), shr .u64 (IntKind.u64.wrap ((IntKind.u64.wrap ((IntKind.u64.wrap ((IntKind.u64.wrap ((IntKind.u64.wrap ((IntKind.u64.wrap ((Go.bits .or .u64 (ji12) (ji15)) * 4294967296)) + ((ji17) / 4294967296))) - (IntKind.u64.wrap (x15_18 * ji10)))) * 4294967296)) + (Go.bits .and .u64 (ji17) 4294967295))) - (IntKind.u64.wrap ((IntKind.u64.wrap (x18_2 - 1)) * ji10)))) ji8)) else (none)) else (bits_Div64.l1 kj24 ji10 ji8 ((ji10) / 4294967296) (Go.bits .and .u64 (ji10) 4294967295) (Go.bits .and .u64 (ji17) 4294967295) x15_18 (IntKind.u64.wrap (x16_2 + ((ji10) / 4294967296))) (IntKind.u64.wrap ((IntKind.u64.wrap ((IntKind.u64.wrap ((Go.bits .or .u64 (ji12) (ji15)) * 4294967296)) + ((ji17) / 4294967296))) - (IntKind.u64.wrap (x15_18 * ji10)))) (IntKind.u64.wrap (x18_2 - 1)))) = some (r1, r2) := by rw [if_pos rfl] at H; exact H
                clear H
                have H := H1
                clear H1
                by_cases c28 : (IntKind.u64.wrap (x16_2 + ((ji10) / 4294967296))) ≥ 4294967296
                ·rw [if_pos c28] at H
                 have c28b0 : decide (4294967296 ≤ (IntKind.u64.wrap (x16_2 + ((ji10) / 4294967296)))) = true := decide_eq_true c28
                 clear c28
                 by_cases c29 : 0 ≤ ji8
                 ·rw [if_pos c29] at H
                  have c29b0 := eq_true c29
                  have c29b1 : decide (0 ≤ ji8) = true := decide_eq_true c29
                  clear c29
                  obtain ⟨ji30, hji30⟩ : ∃ j_ : Int, (shr .u64 (IntKind.u64.wrap ((IntKind.u64.wrap ((IntKind.u64.wrap ((IntKind.u64.wrap ((IntKind.u64.wrap ((IntKind.u64.wrap ((Go.bits .or .u64 (ji12) (ji15)) * 4294967296)) + ((ji17) / 4294967296))) - (IntKind.u64.wrap (x15_18 * ji10)))) * 4294967296)) + (Go.bits .and .u64 (ji17) 4294967295))) - (IntKind.u64.wrap ((IntKind.u64.wrap (x18_2 - 1)) * ji10)))) ji8) = j_ := ⟨_, rfl⟩
                  replace H : (some (IntKind.u64.wrap ((IntKind.u64.wrap (x15_18 * 4294967296)) + (IntKind.u64.wrap (x18_2 - 1))), ji30)) = some (r1, r2) := by first | (rw [hji30] at H; exact H) | (simp only [hji30] at H ⊢; exact H)
                  have hji30_ : ((IntKind.u64.wrap ((IntKind.u64.wrap ((IntKind.u64.wrap ((IntKind.u64.wrap ((IntKind.u64.wrap ((IntKind.u64.wrap ((Go.bits .or .u64 (ji12) (ji15)) * 4294967296)) + ((ji17) / 4294967296))) - (IntKind.u64.wrap (x15_18 * ji10)))) * 4294967296)) + (Go.bits .and .u64 (ji17) 4294967295))) - (IntKind.u64.wrap ((IntKind.u64.wrap (x18_2 - 1)) * ji10)))) / 2 ^ min ji8.toNat 64) = ji30 := hji30
                  have hji30z : ji8 ≤ 64 → ((IntKind.u64.wrap ((IntKind.u64.wrap ((IntKind.u64.wrap ((IntKind.u64.wrap ((IntKind.u64.wrap ((IntKind.u64.wrap ((Go.bits .or .u64 (ji12) (ji15)) * 4294967296)) + ((ji17) / 4294967296))) - (IntKind.u64.wrap (x15_18 * ji10)))) * 4294967296)) + (Go.bits .and .u64 (ji17) 4294967295))) - (IntKind.u64.wrap ((IntKind.u64.wrap (x18_2 - 1)) * ji10)))) / 2 ^ ji8.toNat) = ji30 := shr_small hji30
                  simp only [Option.some.injEq, Prod.mk.injEq] at H
                  obtain ⟨rfl, rfl⟩ := H
                  go_wp2
                  repeat (go_quiet (fail); try go_wp2)
                  go_ret2
                  exact ⟨by first | rfl | (simp; done) | (simp only [← hji8, ← hji10, ← hji12, ← hji13, ← hji15, ← hji17, ← hji30] <;> (first | rfl | simp)) | (simp [*]; done), by repeat (first | exact Drawn0.refl _ | apply Drawn0.step)⟩
                 ·rw [if_neg c29] at H
                  exact absurd H (by simp)
                ·rw [if_neg c28] at H
                 have c28b0 : decide (4294967296 ≤ (IntKind.u64.wrap (x16_2 + ((ji10) / 4294967296)))) = false := decide_eq_false c28
                 clear c28
                 have H' := Aside0.mk H
                 clear H
                 go_wp2
                 repeat (go_quiet (fail); try go_wp2)
                 go_roundg kj24
                 case measure => have := HJ18.out; have := HK2.out; have := HJ24.out; omega
                 case rel => exact ⟨(IntKind.u64.wrap (x16_2 + ((ji10) / 4294967296))), (IntKind.u64.wrap (x18_2 - 1)), (by first | rfl | (simp; done) | (simp only [← hji10] <;> (first | rfl | simp)) | (simp [*]; done)), (by first | rfl | (simp; done) | (simp [*]; done)), H', ⟨by have := HJ18.out; have := HK2.out; have := HJ24.out; omega⟩, by repeat (first | exact Drawn0.refl _ | apply Drawn0.step)⟩
               ·replace c27 := Bool.eq_false_iff.mpr c27
                subst c27
                have H1 : (if 0 ≤ ji8 then (some (IntKind.u64.wrap ((IntKind.u64.wrap (x15_18 * 4294967296)) + x18_2), shr .u64 (IntKind.u64.wrap ((IntKind.u64.wrap ((IntKind.u64.wrap ((IntKind.u64.wrap ((IntKind.u64.wrap ((IntKind.u64.wrap ((Go.bits .or .u64 (ji12) (ji15)) * 4294967296)) + ((ji17) / 4294967296))) - (IntKind.u64.wrap (x15_18 * ji10)))) * 4294967296)) + (Go.bits .and .u64 (ji17) 4294967295))) - (IntKind.u64.wrap (x18_2 * ji10)))) ji8)) else (none)) = some (r1, r2) := by rw [if_neg (show ¬ (false = true) by decide)] at H; exact H
                clear H
                have H := H1
                clear H1
                by_cases c31 : 0 ≤ ji8
                ·rw [if_pos c31] at H
                 have c31b0 := eq_true c31
                 have c31b1 : decide (0 ≤ ji8) = true := decide_eq_true c31
                 clear c31
                 obtain ⟨ji32, hji32⟩ : ∃ j_ : Int, (shr .u64 (IntKind.u64.wrap ((IntKind.u64.wrap ((IntKind.u64.wrap ((IntKind.u64.wrap ((IntKind.u64.wrap ((IntKind.u64.wrap ((Go.bits .or .u64 (ji12) (ji15)) * 4294967296)) + ((ji17) / 4294967296))) - (IntKind.u64.wrap (x15_18 * ji10)))) * 4294967296)) + (Go.bits .and .u64 (ji17) 4294967295))) - (IntKind.u64.wrap (x18_2 * ji10)))) ji8) = j_ := ⟨_, rfl⟩
                 replace H : (some (IntKind.u64.wrap ((IntKind.u64.wrap (x15_18 * 4294967296)) + x18_2), ji32)) = some (r1, r2) := by first | (rw [hji32] at H; exact H) | (simp only [hji32] at H ⊢; exact H)
                 have hji32_ : ((IntKind.u64.wrap ((IntKind.u64.wrap ((IntKind.u64.wrap ((IntKind.u64.wrap ((IntKind.u64.wrap ((IntKind.u64.wrap ((Go.bits .or .u64 (ji12) (ji15)) * 4294967296)) + ((ji17) / 4294967296))) - (IntKind.u64.wrap (x15_18 * ji10)))) * 4294967296)) + (Go.bits .and .u64 (ji17) 4294967295))) - (IntKind.u64.wrap (x18_2 * ji10)))) / 2 ^ min ji8.toNat 64) = ji32 := hji32
                 have hji32z : ji8 ≤ 64 → ((IntKind.u64.wrap ((IntKind.u64.wrap ((IntKind.u64.wrap ((IntKind.u64.wrap ((IntKind.u64.wrap ((IntKind.u64.wrap ((Go.bits .or .u64 (ji12) (ji15)) * 4294967296)) + ((ji17) / 4294967296))) - (IntKind.u64.wrap (x15_18 * ji10)))) * 4294967296)) + (Go.bits .and .u64 (ji17) 4294967295))) - (IntKind.u64.wrap (x18_2 * ji10)))) / 2 ^ ji8.toNat) = ji32 := shr_small hji32
                 simp only [Option.some.injEq, Prod.mk.injEq] at H
                 obtain ⟨rfl, rfl⟩ := H
                 go_wp2
                 repeat (go_quiet (fail); try go_wp2)
                 go_ret2
                 exact ⟨by first | rfl | (simp; done) | (simp only [← hji8, ← hji10, ← hji12, ← hji13, ← hji15, ← hji17, ← hji32] <;> (first | rfl | simp)) | (simp [*]; done), by repeat (first | exact Drawn0.refl _ | apply Drawn0.step)⟩
                ·rw [if_neg c31] at H
                 exact absurd H (by simp)
      ·rw [if_neg c14] at H
       exact absurd H (by simp)
     ·rw [if_neg c9] at H
      exact absurd H (by simp)

end Go.Proofs.Yteoieencagcgdaa.PX
end
section
namespace Go.Proofs.Yteoieencagcgdaa.PX
open Go.RowKit Go.Proofs.YteoieencagcgdaaW.PrintWords Go.Proofs.YteoieencagcgdaaW.PrintLast Go.Proofs.YteoieencagcgdaaW.PrintMore
attribute [local go_sem] max2_int min2_int max_two min_two max_three min_three max_four min_four
set_option linter.unusedVariables false
set_option linter.unusedSimpArgs false

def exact_order.f (a0 : Int) (a1 : Int) : Option (Int) := if a0 < a1 then (some (-1)) else (if a0 > a1 then (some 1) else (some 0))
set_option maxHeartbeats 8000000 in
set_option maxRecDepth 100000 in
theorem exact_order.calls (a0 : Int) (a1 : Int) (r : Int) (w : World) (h : exact_order.f a0 a1 = some r) :
   Calls Try.prog 68 #[.int .u64 a0, .int .u64 a1] w fun e w' => e = .returned (.int .i64 r) ∧ Drawn0 w w' := by
  have H : (if a0 < a1 then (some (-1)) else (if a0 > a1 then (some 1) else (some 0))) = some r := h
  clear h
  by_cases c3 : a0 < a1
  ·rw [if_pos c3] at H
   have c3b0 : decide (a0 < a1) = true := decide_eq_true c3
   clear c3
   obtain rfl := Option.some.inj H
   simp only [Option.some.injEq, Prod.mk.injEq] at H
   obtain ⟨rfl⟩ := H
   go_enter Try.func68, Try.ntmps68
   go_wp2
   go_ret
   exact ⟨by first | rfl | (simp; done) | (simp [*]; done), by repeat (first | exact Drawn0.refl _ | apply Drawn0.step)⟩
  ·rw [if_neg c3] at H
   have c3b0 : decide (a0 < a1) = false := decide_eq_false c3
   clear c3
   by_cases c4 : a0 > a1
   ·rw [if_pos c4] at H
    have c4b0 : decide (a1 < a0) = true := decide_eq_true c4
    clear c4
    obtain rfl := Option.some.inj H
    simp only [Option.some.injEq, Prod.mk.injEq] at H
    obtain ⟨rfl⟩ := H
    go_enter Try.func68, Try.ntmps68
    go_wp2
    go_ret
    exact ⟨by first | rfl | (simp; done) | (simp [*]; done), by repeat (first | exact Drawn0.refl _ | apply Drawn0.step)⟩
   ·rw [if_neg c4] at H
    have c4b0 : decide (a1 < a0) = false := decide_eq_false c4
    clear c4
    obtain rfl := Option.some.inj H
    simp only [Option.some.injEq, Prod.mk.injEq] at H
    obtain ⟨rfl⟩ := H
    go_enter Try.func68, Try.ntmps68
    go_wp2
    go_ret
    exact ⟨by first | rfl | (simp; done) | (simp [*]; done), by repeat (first | exact Drawn0.refl _ | apply Drawn0.step)⟩

end Go.Proofs.Yteoieencagcgdaa.PX
end
section
namespace Go.Proofs.Yteoieencagcgdaa.PX
open Go.RowKit Go.Proofs.YteoieencagcgdaaW.PrintWords Go.Proofs.YteoieencagcgdaaW.PrintLast Go.Proofs.YteoieencagcgdaaW.PrintMore
attribute [local go_sem] max2_int min2_int max_two min_two max_three min_three max_four min_four
set_option linter.unusedVariables false
set_option linter.unusedSimpArgs false

def exact_above.f (a0 : Int) (a1 : Int) (a2 : Int) (a3 : Int) : Option (Bool) := (exact_order.f a1 (IntKind.u64.wrap (a2 - a1))).bind fun t194 => (if a3 = 1 then (some (decide (a1 > 0))) else (if a3 = 2 then (some (decide (t194 ≥ 0))) else (if a3 = 3 then (if t194 > 0 then (some true) else (if t194 = 0 then (some ((Int.tmod a0 2) == 1)) else (some false))) else (some false))))
set_option maxHeartbeats 8000000 in
set_option maxRecDepth 100000 in
theorem exact_above.calls (a0 : Int) (a1 : Int) (a2 : Int) (a3 : Int) (r : Bool) (w : World) (h : exact_above.f a0 a1 a2 a3 = some r) :
   Calls Try.prog 60 #[.int .u64 a0, .int .u64 a1, .int .u64 a2, .int .i64 a3] w fun e w' => e = .returned (.bool r) ∧ Drawn0 w w' := by
  have H : ((exact_order.f a1 (IntKind.u64.wrap (a2 - a1))).bind fun t194 => (if a3 = 1 then (some (decide (a1 > 0))) else (if a3 = 2 then (some (decide (t194 ≥ 0))) else (if a3 = 3 then (if t194 > 0 then (some true) else (if t194 = 0 then (some ((Int.tmod a0 2) == 1)) else (some false))) else (some false))))) = some r := h
  clear h
  replace H := Option.bind_eq_some_iff.mp H
  obtain ⟨t194, A50, H⟩ := H
  replace H : (if a3 = 1 then (some (decide (a1 > 0))) else (if a3 = 2 then (some (decide (t194 ≥ 0))) else (if a3 = 3 then (if t194 > 0 then (some true) else (if t194 = 0 then (some ((Int.tmod a0 2) == 1)) else (some false))) else (some false)))) = some r := H
  have A5 := Aside0.mk A50
  clear A50
  by_cases c6 : a3 = 1
  ·rw [if_pos c6] at H
   have c6b0 : (a3 == 1) = true := beq_iff_eq.mpr c6
   have c6b1 : (a3 != 1) = false := bne_eq_false_iff_eq.mpr c6
   clear c6
   obtain rfl := Option.some.inj H
   simp only [Option.some.injEq, Prod.mk.injEq] at H
   obtain ⟨rfl⟩ := H
   go_enter Try.func60, Try.ntmps60
   go_wp2_with (first | ((with_reducible refine gate_callee (f := 68) rfl ?_); refine goA (some 14) Try.func68 #[.int .u64 a1, .int .u64 (IntKind.u64.wrap (a2 - a1))] ?_; (with_reducible refine (exact_order.calls a1 (IntKind.u64.wrap (a2 - a1)) t194 _ A5.out).mono ?_); rintro e w' ⟨rfl, ⟨nd, rfl⟩⟩; refine ⟨_, rfl, ?_⟩))
   go_ret
   exact ⟨by first | rfl | (simp; done) | (simp [*]; done), by repeat (first | exact Drawn0.refl _ | apply Drawn0.step)⟩
  ·rw [if_neg c6] at H
   have c6b0 : (a3 == 1) = false := beq_eq_false_iff_ne.mpr c6
   have c6b1 : (a3 != 1) = true := bne_iff_ne.mpr c6
   by_cases c7 : a3 = 2
   ·rw [if_pos c7] at H
    have c7b0 : (a3 == 2) = true := beq_iff_eq.mpr c7
    have c7b1 : (a3 != 2) = false := bne_eq_false_iff_eq.mpr c7
    clear c7
    obtain rfl := Option.some.inj H
    simp only [Option.some.injEq, Prod.mk.injEq] at H
    obtain ⟨rfl⟩ := H
    go_enter Try.func60, Try.ntmps60
    go_wp2_with (first | ((with_reducible refine gate_callee (f := 68) rfl ?_); refine goA (some 14) Try.func68 #[.int .u64 a1, .int .u64 (IntKind.u64.wrap (a2 - a1))] ?_; (with_reducible refine (exact_order.calls a1 (IntKind.u64.wrap (a2 - a1)) t194 _ A5.out).mono ?_); rintro e w' ⟨rfl, ⟨nd, rfl⟩⟩; refine ⟨_, rfl, ?_⟩))
    go_ret
    exact ⟨by first | rfl | (simp; done) | (simp [*]; done), by repeat (first | exact Drawn0.refl _ | apply Drawn0.step)⟩
   ·rw [if_neg c7] at H
    have c7b0 : (a3 == 2) = false := beq_eq_false_iff_ne.mpr c7
    have c7b1 : (a3 != 2) = true := bne_iff_ne.mpr c7
    by_cases c8 : a3 = 3
    ·rw [if_pos c8] at H
     have c8b0 : (a3 == 3) = true := beq_iff_eq.mpr c8
     have c8b1 : (a3 != 3) = false := bne_eq_false_iff_eq.mpr c8
     clear c8
     by_cases c9 : t194 > 0
     ·rw [if_pos c9] at H
      have c9b0 : decide (0 < t194) = true := decide_eq_true c9
      clear c9
      obtain rfl := Option.some.inj H
      simp only [Option.some.injEq, Prod.mk.injEq] at H
      obtain ⟨rfl⟩ := H
      go_enter Try.func60, Try.ntmps60
      go_wp2_with (first | ((with_reducible refine gate_callee (f := 68) rfl ?_); refine goA (some 14) Try.func68 #[.int .u64 a1, .int .u64 (IntKind.u64.wrap (a2 - a1))] ?_; (with_reducible refine (exact_order.calls a1 (IntKind.u64.wrap (a2 - a1)) t194 _ A5.out).mono ?_); rintro e w' ⟨rfl, ⟨nd, rfl⟩⟩; refine ⟨_, rfl, ?_⟩))
      go_ret
      exact ⟨by first | rfl | (simp; done) | (simp [*]; done), by repeat (first | exact Drawn0.refl _ | apply Drawn0.step)⟩
     ·rw [if_neg c9] at H
      have c9b0 : decide (0 < t194) = false := decide_eq_false c9
      clear c9
      by_cases c10 : t194 = 0
      ·rw [if_pos c10] at H
       have c10b0 : (t194 == 0) = true := beq_iff_eq.mpr c10
       have c10b1 : (t194 != 0) = false := bne_eq_false_iff_eq.mpr c10
       clear c10
       obtain rfl := Option.some.inj H
       simp only [Option.some.injEq, Prod.mk.injEq] at H
       obtain ⟨rfl⟩ := H
       go_enter Try.func60, Try.ntmps60
       go_wp2_with (first | ((with_reducible refine gate_callee (f := 68) rfl ?_); refine goA (some 14) Try.func68 #[.int .u64 a1, .int .u64 (IntKind.u64.wrap (a2 - a1))] ?_; (with_reducible refine (exact_order.calls a1 (IntKind.u64.wrap (a2 - a1)) t194 _ A5.out).mono ?_); rintro e w' ⟨rfl, ⟨nd, rfl⟩⟩; refine ⟨_, rfl, ?_⟩))
       go_ret
       exact ⟨by first | rfl | (simp; done) | (simp [*]; done), by repeat (first | exact Drawn0.refl _ | apply Drawn0.step)⟩
      ·rw [if_neg c10] at H
       have c10b0 : (t194 == 0) = false := beq_eq_false_iff_ne.mpr c10
       have c10b1 : (t194 != 0) = true := bne_iff_ne.mpr c10
       obtain rfl := Option.some.inj H
       simp only [Option.some.injEq, Prod.mk.injEq] at H
       obtain ⟨rfl⟩ := H
       go_enter Try.func60, Try.ntmps60
       go_wp2_with (first | ((with_reducible refine gate_callee (f := 68) rfl ?_); refine goA (some 14) Try.func68 #[.int .u64 a1, .int .u64 (IntKind.u64.wrap (a2 - a1))] ?_; (with_reducible refine (exact_order.calls a1 (IntKind.u64.wrap (a2 - a1)) t194 _ A5.out).mono ?_); rintro e w' ⟨rfl, ⟨nd, rfl⟩⟩; refine ⟨_, rfl, ?_⟩))
       go_ret
       exact ⟨by first | rfl | (simp; done) | (simp [*]; done), by repeat (first | exact Drawn0.refl _ | apply Drawn0.step)⟩
    ·rw [if_neg c8] at H
     have c8b0 : (a3 == 3) = false := beq_eq_false_iff_ne.mpr c8
     have c8b1 : (a3 != 3) = true := bne_iff_ne.mpr c8
     obtain rfl := Option.some.inj H
     simp only [Option.some.injEq, Prod.mk.injEq] at H
     obtain ⟨rfl⟩ := H
     go_enter Try.func60, Try.ntmps60
     go_wp2_with (first | ((with_reducible refine gate_callee (f := 68) rfl ?_); refine goA (some 14) Try.func68 #[.int .u64 a1, .int .u64 (IntKind.u64.wrap (a2 - a1))] ?_; (with_reducible refine (exact_order.calls a1 (IntKind.u64.wrap (a2 - a1)) t194 _ A5.out).mono ?_); rintro e w' ⟨rfl, ⟨nd, rfl⟩⟩; refine ⟨_, rfl, ?_⟩))
     go_ret
     exact ⟨by first | rfl | (simp; done) | (simp [*]; done), by repeat (first | exact Drawn0.refl _ | apply Drawn0.step)⟩

end Go.Proofs.Yteoieencagcgdaa.PX
end
section
namespace Go.Proofs.Yteoieencagcgdaa.PX
open Go.RowKit Go.Proofs.YteoieencagcgdaaW.PrintWords Go.Proofs.YteoieencagcgdaaW.PrintLast Go.Proofs.YteoieencagcgdaaW.PrintMore
attribute [local go_sem] max2_int min2_int max_two min_two max_three min_three max_four min_four
set_option linter.unusedVariables false
set_option linter.unusedSimpArgs false

def exact_Div.j0 : Nat → Int → Int → Bool → Int → Int → Option (Int × Int)
  | 0, _, _, _, _, _ => none
  | k + 1, x1, x2, x19, x196000, x196001 => if x19 = true then (some (0, 2)) else (if x196000 ≥ x1 then (some (0, 3)) else ((bits_Div64.f k x196000 x196001 x1).bind fun bt196 => ((exact_above.f bt196.1 bt196.2 x1 x2).bind fun t198 => (if t198 = true then (if (IntKind.u64.wrap (bt196.1 + 1)) = 0 then (some (0, 3)) else (some (IntKind.u64.wrap (bt196.1 + 1), 0))) else (some (bt196.1, 0))))))
def exact_Div.f (k : Nat) (a0_0 : Int) (a0_1 : Int) (a1 : Int) (a2 : Int) : Option (Int × Int) := if a1 = 0 then (exact_Div.j0 k a1 a2 true a0_0 a0_1) else (if a2 < 0 then (exact_Div.j0 k a1 a2 true a0_0 a0_1) else (exact_Div.j0 k a1 a2 (decide (a2 > 3)) a0_0 a0_1))
set_option maxHeartbeats 8000000 in
set_option maxRecDepth 100000 in
theorem exact_Div.calls (k : Nat) (a0_0 : Int) (a0_1 : Int) (a1 : Int) (a2 : Int) (r1 : Int) (r2 : Int) (w : World) (h : exact_Div.f k a0_0 a0_1 a1 a2 = some (r1, r2)) :
   Calls Try.prog 51 #[.agg #[.int .u64 a0_0, .int .u64 a0_1], .int .u64 a1, .int .i64 a2] w fun e w' => e = .returned (.tuple #[.int .u64 r1, .int .i64 r2]) ∧ Below w.heap.size w w' := by
  have hu89 := Try.underlying89
  have HB := Aside0.mk (Below.refl w.heap.size w)
  have H : (if a1 = 0 then (exact_Div.j0 k a1 a2 true a0_0 a0_1) else (if a2 < 0 then (exact_Div.j0 k a1 a2 true a0_0 a0_1) else (exact_Div.j0 k a1 a2 (decide (a2 > 3)) a0_0 a0_1))) = some (r1, r2) := h
  clear h
  have HC4 := Aside0.mk H
  clear H
  go_enter Try.func51, Try.ntmps51
  go_upto_region 1 with (first | ((with_reducible refine gate_dst (N := 3) rfl ?_); refine boxA (N := 3) (cs := #[.int .u64 a0_0, .int .u64 a0_1]) (t := 89) ?_; intro gb195 hg w5 hbox hb; have n0_ := hB HB hb; have n1_ := Aside0.mk (hbox); have n2_ := gW hg HB; have n3_ := gW hg HB; clear HB; have HB := n0_; have BK195 := n1_; have GW195 := n2_; have GE195 := n3_; clear n0_ n1_ n2_ n3_; clear hb hbox hg))
  (try simp only [Act.put, List.setIfInBounds_toArray, List.set_cons_zero, List.set_cons_succ])
  go_cut [19] (fun v19 wc => ∃ (kq : Nat) (x19_3 : Bool), v19 = .bool x19_3 ∧ Aside0 (exact_Div.j0 kq a1 a2 x19_3 a0_0 a0_1 = some (r1, r2)) ∧ Aside0 (kq ≤ k) ∧ Aside0 (wc.heap[gb195]? = some (.cells #[.int .u64 a0_0, .int .u64 a0_1] 89 (0, 0))) ∧ Aside0 (Below w.heap.size w wc))
  case first =>
   have H := HC4.out
   clear HC4
   by_cases c6 : a1 = 0
   ·rw [if_pos c6] at H
    have c6b0 : (a1 == 0) = true := beq_iff_eq.mpr c6
    have c6b1 : (a1 != 0) = false := bne_eq_false_iff_eq.mpr c6
    clear c6
    (first | rw [c6b0] | (simp only [i64_w, i32_w]; rw [c6b0]) | skip)
    have H' := Aside0.mk H
    clear H
    go_wp2
    go_meet
    case rel => exact ⟨_, (true), (by first | rfl | (simp; done) | (simp [*]; done)), H', ⟨by first | omega | exact Nat.le_refl _⟩, ⟨aB BK195⟩, ⟨aH HB⟩⟩
   ·rw [if_neg c6] at H
    have c6b0 : (a1 == 0) = false := beq_eq_false_iff_ne.mpr c6
    have c6b1 : (a1 != 0) = true := bne_iff_ne.mpr c6
    (first | rw [c6b0] | (simp only [i64_w, i32_w]; rw [c6b0]) | skip)
    by_cases c7 : a2 < 0
    ·rw [if_pos c7] at H
     have c7b0 : decide (a2 < 0) = true := decide_eq_true c7
     clear c7
     have H' := Aside0.mk H
     clear H
     go_wp2
     go_meet
     case rel => exact ⟨_, (true), (by first | rfl | (simp; done) | (simp [*]; done)), H', ⟨by first | omega | exact Nat.le_refl _⟩, ⟨aB BK195⟩, ⟨aH HB⟩⟩
    ·rw [if_neg c7] at H
     have c7b0 : decide (a2 < 0) = false := decide_eq_false c7
     clear c7
     have H' := Aside0.mk H
     clear H
     go_wp2
     go_meet
     case rel => exact ⟨_, (decide (a2 > 3)), (by first | rfl | (simp; done) | (simp [*]; done)), H', ⟨by first | omega | exact Nat.le_refl _⟩, ⟨aB BK195⟩, ⟨aH HB⟩⟩
  case rest =>
   clear HC4
   try clear p2
   try clear c5
   try clear c6
   try clear c6b0
   try clear c6b1
   try clear c7
   try clear c7b0
   obtain ⟨kq, x19_3, rfl, HA, HJ3, BK195, HB⟩ := hcut
   cases kq with
   | zero => exact absurd HA.out (by simp [exact_Div.j0])
   | succ kj3 =>
    have H := HA.out
    clear HA
    simp only [exact_Div.j0] at H
    by_cases c8 : x19_3 = true
    ·subst c8
     have H1 : (some (0, 2)) = some (r1, r2) := by rw [if_pos rfl] at H; exact H
     clear H
     have H := H1
     clear H1
     simp only [Option.some.injEq, Prod.mk.injEq] at H
     obtain ⟨rfl, rfl⟩ := H
     go_wp2
     go_ret2
     exact ⟨by first | rfl | (simp [errW_none, errW_some] <;> rfl) | (simp [*, errW_none, errW_some] <;> rfl) | (simp (disch := first | assumption | omega) only [Int.tdiv_eq_ediv_of_nonneg, Int.tmod_eq_emod_of_nonneg]; rfl), aH HB⟩
    ·replace c8 := Bool.eq_false_iff.mpr c8
     subst c8
     have H1 : (if a0_0 ≥ a1 then (some (0, 3)) else ((bits_Div64.f kj3 a0_0 a0_1 a1).bind fun bt196 => ((exact_above.f bt196.1 bt196.2 a1 a2).bind fun t198 => (if t198 = true then (if (IntKind.u64.wrap (bt196.1 + 1)) = 0 then (some (0, 3)) else (some (IntKind.u64.wrap (bt196.1 + 1), 0))) else (some (bt196.1, 0)))))) = some (r1, r2) := by rw [if_neg (show ¬ (false = true) by decide)] at H; exact H
     clear H
     have H := H1
     clear H1
     by_cases c9 : a0_0 ≥ a1
     ·rw [if_pos c9] at H
      have c9b0 : decide (a1 ≤ a0_0) = true := decide_eq_true c9
      clear c9
      simp only [Option.some.injEq, Prod.mk.injEq] at H
      obtain ⟨rfl, rfl⟩ := H
      have hcz10_0 : wc.cell? ⟨gb195, 0, none⟩ = some (.int .u64 a0_0) := lc BK195 0
      have hcz10_1 : wc.cell? ⟨gb195, 1, none⟩ = some (.int .u64 a0_1) := lc BK195 1
      have hfz10_0 := fz BK195 0
      have hfz10_1 := fz BK195 1
      go_wp2
      go_ret2
      exact ⟨by first | rfl | (simp [errW_none, errW_some] <;> rfl) | (simp [*, errW_none, errW_some] <;> rfl) | (simp (disch := first | assumption | omega) only [Int.tdiv_eq_ediv_of_nonneg, Int.tmod_eq_emod_of_nonneg]; rfl), aH HB⟩
     ·rw [if_neg c9] at H
      have c9b0 : decide (a1 ≤ a0_0) = false := decide_eq_false c9
      clear c9
      replace H := Option.bind_eq_some_iff.mp H
      obtain ⟨⟨t196, t197⟩, A110, H⟩ := H
      replace H : ((exact_above.f t196 t197 a1 a2).bind fun t198 => (if t198 = true then (if (IntKind.u64.wrap (t196 + 1)) = 0 then (some (0, 3)) else (some (IntKind.u64.wrap (t196 + 1), 0))) else (some (t196, 0)))) = some (r1, r2) := H
      have A11 := Aside0.mk A110
      clear A110
      replace H := Option.bind_eq_some_iff.mp H
      obtain ⟨t198, A120, H⟩ := H
      replace H : (if t198 = true then (if (IntKind.u64.wrap (t196 + 1)) = 0 then (some (0, 3)) else (some (IntKind.u64.wrap (t196 + 1), 0))) else (some (t196, 0))) = some (r1, r2) := H
      have A12 := Aside0.mk A120
      clear A120
      by_cases c13 : t198 = true
      ·subst c13
       have H1 : (if (IntKind.u64.wrap (t196 + 1)) = 0 then (some (0, 3)) else (some (IntKind.u64.wrap (t196 + 1), 0))) = some (r1, r2) := by rw [if_pos rfl] at H; exact H
       clear H
       have H := H1
       clear H1
       by_cases c14 : (IntKind.u64.wrap (t196 + 1)) = 0
       ·rw [if_pos c14] at H
        have c14b0 : ((IntKind.u64.wrap (t196 + 1)) == 0) = true := beq_iff_eq.mpr c14
        have c14b1 : ((IntKind.u64.wrap (t196 + 1)) != 0) = false := bne_eq_false_iff_eq.mpr c14
        clear c14
        simp only [Option.some.injEq, Prod.mk.injEq] at H
        obtain ⟨rfl, rfl⟩ := H
        have hcz15_0 : wc.cell? ⟨gb195, 0, none⟩ = some (.int .u64 a0_0) := lc BK195 0
        have hcz15_1 : wc.cell? ⟨gb195, 1, none⟩ = some (.int .u64 a0_1) := lc BK195 1
        have hfz15_0 := fz BK195 0
        have hfz15_1 := fz BK195 1
        go_wp2_with (first | ((with_reducible refine gate_callee (f := 59) rfl ?_); refine goA (some 30) Try.func59 #[.int .u64 a0_0, .int .u64 a0_1, .int .u64 a1] ?_; (with_reducible refine (bits_Div64.calls kj3 a0_0 a0_1 a1 t196 t197 _ A11.out).mono ?_); rintro e w' ⟨rfl, ⟨nd, rfl⟩⟩; refine ⟨_, rfl, ?_⟩) | ((with_reducible refine gate_callee (f := 60) rfl ?_); refine goA (some 37) Try.func60 #[.int .u64 t196, .int .u64 t197, .int .u64 a1, .int .i64 a2] ?_; (with_reducible refine (exact_above.calls t196 t197 a1 a2 true _ A12.out).mono ?_); rintro e w' ⟨rfl, ⟨nd, rfl⟩⟩; refine ⟨_, rfl, ?_⟩))
        go_ret2
        exact ⟨by first | rfl | (simp [errW_none, errW_some] <;> rfl) | (simp [*, errW_none, errW_some] <;> rfl) | (simp (disch := first | assumption | omega) only [Int.tdiv_eq_ediv_of_nonneg, Int.tmod_eq_emod_of_nonneg]; rfl), aH HB⟩
       ·rw [if_neg c14] at H
        have c14b0 : ((IntKind.u64.wrap (t196 + 1)) == 0) = false := beq_eq_false_iff_ne.mpr c14
        have c14b1 : ((IntKind.u64.wrap (t196 + 1)) != 0) = true := bne_iff_ne.mpr c14
        simp only [Option.some.injEq, Prod.mk.injEq] at H
        obtain ⟨rfl, rfl⟩ := H
        have hcz16_0 : wc.cell? ⟨gb195, 0, none⟩ = some (.int .u64 a0_0) := lc BK195 0
        have hcz16_1 : wc.cell? ⟨gb195, 1, none⟩ = some (.int .u64 a0_1) := lc BK195 1
        have hfz16_0 := fz BK195 0
        have hfz16_1 := fz BK195 1
        go_wp2_with (first | ((with_reducible refine gate_callee (f := 59) rfl ?_); refine goA (some 30) Try.func59 #[.int .u64 a0_0, .int .u64 a0_1, .int .u64 a1] ?_; (with_reducible refine (bits_Div64.calls kj3 a0_0 a0_1 a1 t196 t197 _ A11.out).mono ?_); rintro e w' ⟨rfl, ⟨nd, rfl⟩⟩; refine ⟨_, rfl, ?_⟩) | ((with_reducible refine gate_callee (f := 60) rfl ?_); refine goA (some 37) Try.func60 #[.int .u64 t196, .int .u64 t197, .int .u64 a1, .int .i64 a2] ?_; (with_reducible refine (exact_above.calls t196 t197 a1 a2 true _ A12.out).mono ?_); rintro e w' ⟨rfl, ⟨nd, rfl⟩⟩; refine ⟨_, rfl, ?_⟩))
        go_ret2
        exact ⟨by first | rfl | (simp [errW_none, errW_some] <;> rfl) | (simp [*, errW_none, errW_some] <;> rfl) | (simp (disch := first | assumption | omega) only [Int.tdiv_eq_ediv_of_nonneg, Int.tmod_eq_emod_of_nonneg]; rfl), aH HB⟩
      ·replace c13 := Bool.eq_false_iff.mpr c13
       subst c13
       have H1 : (some (t196, 0)) = some (r1, r2) := by rw [if_neg (show ¬ (false = true) by decide)] at H; exact H
       clear H
       have H := H1
       clear H1
       simp only [Option.some.injEq, Prod.mk.injEq] at H
       obtain ⟨rfl, rfl⟩ := H
       have hcz17_0 : wc.cell? ⟨gb195, 0, none⟩ = some (.int .u64 a0_0) := lc BK195 0
       have hcz17_1 : wc.cell? ⟨gb195, 1, none⟩ = some (.int .u64 a0_1) := lc BK195 1
       have hfz17_0 := fz BK195 0
       have hfz17_1 := fz BK195 1
       go_wp2_with (first | ((with_reducible refine gate_callee (f := 59) rfl ?_); refine goA (some 30) Try.func59 #[.int .u64 a0_0, .int .u64 a0_1, .int .u64 a1] ?_; (with_reducible refine (bits_Div64.calls kj3 a0_0 a0_1 a1 t196 t197 _ A11.out).mono ?_); rintro e w' ⟨rfl, ⟨nd, rfl⟩⟩; refine ⟨_, rfl, ?_⟩) | ((with_reducible refine gate_callee (f := 60) rfl ?_); refine goA (some 37) Try.func60 #[.int .u64 t196, .int .u64 t197, .int .u64 a1, .int .i64 a2] ?_; (with_reducible refine (exact_above.calls t196 t197 a1 a2 false _ A12.out).mono ?_); rintro e w' ⟨rfl, ⟨nd, rfl⟩⟩; refine ⟨_, rfl, ?_⟩))
       go_ret2
       exact ⟨by first | rfl | (simp [errW_none, errW_some] <;> rfl) | (simp [*, errW_none, errW_some] <;> rfl) | (simp (disch := first | assumption | omega) only [Int.tdiv_eq_ediv_of_nonneg, Int.tmod_eq_emod_of_nonneg]; rfl), aH HB⟩

end Go.Proofs.Yteoieencagcgdaa.PX
end
section
namespace Go.Proofs.Yteoieencagcgdaa.PX
open Go.RowKit Go.Proofs.YteoieencagcgdaaW.PrintWords Go.Proofs.YteoieencagcgdaaW.PrintLast Go.Proofs.YteoieencagcgdaaW.PrintMore
attribute [local go_sem] max2_int min2_int max_two min_two max_three min_three max_four min_four
set_option linter.unusedVariables false
set_option linter.unusedSimpArgs false

def bits_Mul64.f (a0 : Int) (a1 : Int) : Option (Int × Int) := some (IntKind.u64.wrap ((IntKind.u64.wrap ((IntKind.u64.wrap ((a0 / 4294967296) * (a1 / 4294967296))) + ((IntKind.u64.wrap ((IntKind.u64.wrap ((a0 / 4294967296) * (Go.bits .and .u64 a1 4294967295))) + ((IntKind.u64.wrap ((Go.bits .and .u64 a0 4294967295) * (Go.bits .and .u64 a1 4294967295))) / 4294967296))) / 4294967296))) + ((IntKind.u64.wrap ((Go.bits .and .u64 (IntKind.u64.wrap ((IntKind.u64.wrap ((a0 / 4294967296) * (Go.bits .and .u64 a1 4294967295))) + ((IntKind.u64.wrap ((Go.bits .and .u64 a0 4294967295) * (Go.bits .and .u64 a1 4294967295))) / 4294967296))) 4294967295) + (IntKind.u64.wrap ((Go.bits .and .u64 a0 4294967295) * (a1 / 4294967296))))) / 4294967296)), IntKind.u64.wrap (a0 * a1))
set_option maxHeartbeats 8000000 in
set_option maxRecDepth 100000 in
theorem bits_Mul64.calls (a0 : Int) (a1 : Int) (r1 : Int) (r2 : Int) (w : World) (h : bits_Mul64.f a0 a1 = some (r1, r2)) :
   Calls Try.prog 61 #[.int .u64 a0, .int .u64 a1] w fun e w' => e = .returned (.tuple #[.int .u64 r1, .int .u64 r2]) ∧ Drawn0 w w' := by
  have H : (some (IntKind.u64.wrap ((IntKind.u64.wrap ((IntKind.u64.wrap ((a0 / 4294967296) * (a1 / 4294967296))) + ((IntKind.u64.wrap ((IntKind.u64.wrap ((a0 / 4294967296) * (Go.bits .and .u64 a1 4294967295))) + ((IntKind.u64.wrap ((Go.bits .and .u64 a0 4294967295) * (Go.bits .and .u64 a1 4294967295))) / 4294967296))) / 4294967296))) + ((IntKind.u64.wrap ((Go.bits .and .u64 (IntKind.u64.wrap ((IntKind.u64.wrap ((a0 / 4294967296) * (Go.bits .and .u64 a1 4294967295))) + ((IntKind.u64.wrap ((Go.bits .and .u64 a0 4294967295) * (Go.bits .and .u64 a1 4294967295))) / 4294967296))) 4294967295) + (IntKind.u64.wrap ((Go.bits .and .u64 a0 4294967295) * (a1 / 4294967296))))) / 4294967296)), IntKind.u64.wrap (a0 * a1))) = some (r1, r2) := h
  clear h
  simp only [Option.some.injEq, Prod.mk.injEq] at H
  obtain ⟨rfl, rfl⟩ := H
  go_enter Try.func61, Try.ntmps61
  go_wp2
  go_ret2
  exact ⟨by first | rfl | (simp; done) | (simp [*]; done), by repeat (first | exact Drawn0.refl _ | apply Drawn0.step)⟩

end Go.Proofs.Yteoieencagcgdaa.PX
end
section
namespace Go.Proofs.Yteoieencagcgdaa.PX
open Go.RowKit Go.Proofs.YteoieencagcgdaaW.PrintWords Go.Proofs.YteoieencagcgdaaW.PrintLast Go.Proofs.YteoieencagcgdaaW.PrintMore
attribute [local go_sem] max2_int min2_int max_two min_two max_three min_three max_four min_four
set_option linter.unusedVariables false
set_option linter.unusedSimpArgs false

def exact_Mul.f (a0 : Int) (a1 : Int) : Option (Int × Int) := (bits_Mul64.f a0 a1).bind fun bt200 => (some (bt200.1, bt200.2))
set_option maxHeartbeats 8000000 in
set_option maxRecDepth 100000 in
theorem exact_Mul.calls (a0 : Int) (a1 : Int) (r1 : Int) (r2 : Int) (w : World) (h : exact_Mul.f a0 a1 = some (r1, r2)) :
   Calls Try.prog 52 #[.int .u64 a0, .int .u64 a1] w fun e w' => e = .returned (.agg #[.int .u64 r1, .int .u64 r2]) ∧ Below w.heap.size w w' := by
  have hu89 := Try.underlying89
  have HB := Aside0.mk (Below.refl w.heap.size w)
  have H : ((bits_Mul64.f a0 a1).bind fun bt200 => (some (bt200.1, bt200.2))) = some (r1, r2) := h
  clear h
  replace H := Option.bind_eq_some_iff.mp H
  obtain ⟨⟨t200, t201⟩, A30, H⟩ := H
  replace H : (some (t200, t201)) = some (r1, r2) := H
  have A3 := Aside0.mk A30
  clear A30
  simp only [Option.some.injEq, Prod.mk.injEq] at H
  obtain ⟨rfl, rfl⟩ := H
  go_enter Try.func52, Try.ntmps52
  go_wp2_with (first | ((with_reducible refine gate_dst (N := 4) rfl ?_); refine boxA (N := 4) (cs := #[.int .u64 0, .int .u64 0]) (t := 89) ?_; intro gb199 hg w4 hbox hb; have n0_ := hB HB hb; have n1_ := Aside0.mk (hbox); have n2_ := gW hg HB; have n3_ := gW hg HB; clear HB; have HB := n0_; have BK199 := n1_; have GW199 := n2_; have GE199 := n3_; clear n0_ n1_ n2_ n3_; clear hb hbox hg) | ((with_reducible refine gate_callee (f := 61) rfl ?_); refine goA (some 10) Try.func61 #[.int .u64 a0, .int .u64 a1] ?_; (with_reducible refine (bits_Mul64.calls a0 a1 t200 t201 _ A3.out).mono ?_); rintro e w' ⟨rfl, ⟨nd, rfl⟩⟩; refine ⟨_, rfl, ?_⟩; (try (rw [drewN_self w4]; generalize hq_ : World.drewN w4 _ = w4; have n0_ : Aside0 (w4.heap[gb199]? = some (.cells #[.int .u64 0, .int .u64 0] 89 (0, 0))) := ⟨by rw [← hq_]; exact (aB BK199)⟩; have n1_ : Aside0 (Below w.heap.size w w4) := ⟨by rw [← hq_]; exact (aH HB)⟩; clear BK199 HB hq_; have BK199 := n0_; have HB := n1_; clear n0_ n1_)); have hcz5_0 : w4.cell? ⟨gb199, 0, none⟩ = some (.int .u64 0) := lc BK199 0; have hcz5_1 : w4.cell? ⟨gb199, 1, none⟩ = some (.int .u64 0) := lc BK199 1; have hfz5_0 := fz BK199 0; have hfz5_1 := fz BK199 1))
  refine bodyPost_ret (results_cell_row rfl _ _ gb199 89 #[.int .u64 t200, .int .u64 t201] (0, 0) _ rfl (by (with_reducible repeat (first | refine blk_drewN ?_ _ | refine blk_drew ?_ | refine blk_alloc ?_ _)); refine blk_put (cs := #[.int .u64 t200, .int .u64 0]) ?_ 1 _ rfl; (with_reducible repeat (first | refine blk_drewN ?_ _ | refine blk_drew ?_ | refine blk_alloc ?_ _)); refine blk_put (cs := #[.int .u64 0, .int .u64 0]) ?_ 0 _ rfl; (with_reducible repeat (first | refine blk_drewN ?_ _ | refine blk_drew ?_ | refine blk_alloc ?_ _)); exact BK199.out) Try.underlying89 rfl (by kernel_rfl)) rfl ?_
  exact ⟨by first | rfl | (simp [errW_none, errW_some] <;> rfl) | (simp [*, errW_none, errW_some] <;> rfl) | (simp (disch := first | assumption | omega) only [Int.tdiv_eq_ediv_of_nonneg, Int.tmod_eq_emod_of_nonneg]; rfl), aH HB⟩

end Go.Proofs.Yteoieencagcgdaa.PX
end
section
namespace Go.Proofs.Yteoieencagcgdaa.PX
open Go.RowKit Go.Proofs.YteoieencagcgdaaW.PrintWords Go.Proofs.YteoieencagcgdaaW.PrintLast Go.Proofs.YteoieencagcgdaaW.PrintMore
attribute [local go_sem] max2_int min2_int max_two min_two max_three min_three max_four min_four
set_option linter.unusedVariables false
set_option linter.unusedSimpArgs false

def exact_MulDiv.f (k : Nat) (a0 : Int) (a1 : Int) (a2 : Int) (a3 : Int) : Option (Int × Int) := (exact_Mul.f a0 a1).bind fun bt202 => ((exact_Div.f k bt202.1 bt202.2 a2 a3).bind fun bt204 => (some (bt204.1, bt204.2)))
set_option maxHeartbeats 8000000 in
set_option maxRecDepth 100000 in
theorem exact_MulDiv.calls (k : Nat) (a0 : Int) (a1 : Int) (a2 : Int) (a3 : Int) (r1 : Int) (r2 : Int) (w : World) (h : exact_MulDiv.f k a0 a1 a2 a3 = some (r1, r2)) :
   Calls Try.prog 41 #[.int .u64 a0, .int .u64 a1, .int .u64 a2, .int .i64 a3] w fun e w' => e = .returned (.tuple #[.int .u64 r1, .int .i64 r2]) ∧ Below w.heap.size w w' := by
  have HB := Aside0.mk (Below.refl w.heap.size w)
  have H : ((exact_Mul.f a0 a1).bind fun bt202 => ((exact_Div.f k bt202.1 bt202.2 a2 a3).bind fun bt204 => (some (bt204.1, bt204.2)))) = some (r1, r2) := h
  clear h
  replace H := Option.bind_eq_some_iff.mp H
  obtain ⟨⟨t202, t203⟩, A50, H⟩ := H
  replace H : ((exact_Div.f k t202 t203 a2 a3).bind fun bt204 => (some (bt204.1, bt204.2))) = some (r1, r2) := H
  have A5 := Aside0.mk A50
  clear A50
  replace H := Option.bind_eq_some_iff.mp H
  obtain ⟨⟨t204, t205⟩, A60, H⟩ := H
  replace H : (some (t204, t205)) = some (r1, r2) := H
  have A6 := Aside0.mk A60
  clear A60
  simp only [Option.some.injEq, Prod.mk.injEq] at H
  obtain ⟨rfl, rfl⟩ := H
  go_enter Try.func41, Try.ntmps41
  go_wp2_with (first | ((with_reducible refine gate_callee (f := 52) rfl ?_); refine goA (some 12) Try.func52 #[.int .u64 a0, .int .u64 a1] ?_; (with_reducible refine (exact_Mul.calls a0 a1 t202 t203 _ A5.out).mono ?_); rintro e w7 ⟨rfl, hb⟩; refine ⟨_, rfl, ?_⟩; have n0_ := hB HB hb; clear HB; have HB := n0_; clear n0_; clear hb) | ((with_reducible refine gate_callee (f := 51) rfl ?_); refine goA (some 15) Try.func51 #[.agg #[.int .u64 t202, .int .u64 t203], .int .u64 a2, .int .i64 a3] ?_; (with_reducible refine (exact_Div.calls k t202 t203 a2 a3 t204 t205 _ A6.out).mono ?_); rintro e w8 ⟨rfl, hb⟩; refine ⟨_, rfl, ?_⟩; have n0_ := hB HB hb; clear HB; have HB := n0_; clear n0_; clear hb))
  go_ret2
  exact ⟨by first | rfl | (simp [errW_none, errW_some] <;> rfl) | (simp [*, errW_none, errW_some] <;> rfl) | (simp (disch := first | assumption | omega) only [Int.tdiv_eq_ediv_of_nonneg, Int.tmod_eq_emod_of_nonneg]; rfl), aH HB⟩

end Go.Proofs.Yteoieencagcgdaa.PX
end
section
namespace Go.Proofs.Yteoieencagcgdaa.PX
open Go.RowKit Go.Proofs.YteoieencagcgdaaW.PrintWords Go.Proofs.YteoieencagcgdaaW.PrintLast Go.Proofs.YteoieencagcgdaaW.PrintMore
attribute [local go_sem] max2_int min2_int max_two min_two max_three min_three max_four min_four
set_option linter.unusedVariables false
set_option linter.unusedSimpArgs false

def money_amounts.l0 : Nat → List Int → Int → Int → Option (Bool)
  | 0, _, _, _ => none
  | k + 1, x5, x6, x7 => if x7 < x6 then (if 0 ≤ x7 then (if x7 < (x5.length : Int) then (if (rd x5 x7) < (-1000000000000) then (some false) else (if (rd x5 x7) > 1000000000000 then (some false) else (money_amounts.l0 k x5 x6 (wrap64 (x7 + 1))))) else (none)) else (none)) else (some true)
def money_amounts.f (k : Nat) (l0 : List Int) : Option (Bool) := money_amounts.l0 k l0 (l0.length : Int) 0
set_option maxHeartbeats 8000000 in
set_option maxRecDepth 100000 in
theorem money_amounts.calls (k : Nat) (A0 : Option Addr) (c0 : Nat) (l0 : List Int) (r : Bool) (w : World) (hr0 : Kd.C (Kd.int .i64) w A0 l0.length l0) (hc0 : l0.length ≤ c0) (h : money_amounts.f k l0 = some r) :
   Calls Try.prog 39 #[.slice A0 l0.length c0] w fun e w' => e = .returned (.bool r) ∧ Drawn0 w w' := by
  have HR0 := Aside0.mk hr0
  have HC0 := Aside0.mk hc0
  clear hr0 hc0
  have H : (money_amounts.l0 k l0 (l0.length : Int) 0) = some r := h
  clear h
  have H' := Aside0.mk H
  clear H
  go_enter Try.func39, Try.ntmps39
  go_wp2
  go_loopg [7] k (fun kq v7 w' => ∃ (x7_1 : Int), v7 = .int .i64 x7_1 ∧ Aside0 (money_amounts.l0 kq l0 (l0.length : Int) x7_1 = some r) ∧ Aside0 (kq ≤ k) ∧ Drawn0 w w')
  case atStart => exact ⟨(0), (by first | rfl | (simp; done) | (simp [*]; done)), H', ⟨Nat.le_refl _⟩, by repeat (first | exact Drawn0.refl _ | apply Drawn0.step)⟩
  case round =>
   clear H'
   obtain ⟨x7_1, rfl, HA, HK1, ⟨m1, rfl⟩⟩ := hrel
   cases gk with
   | zero => exact absurd HA.out (by simp [money_amounts.l0])
   | succ k1 =>
    have H := HA.out
    clear HA
    simp only [money_amounts.l0] at H
    by_cases c2 : x7_1 < (l0.length : Int)
    ·rw [if_pos c2] at H
     have c2b0 : decide (x7_1 < (l0.length : Int)) = true := decide_eq_true c2
     clear c2
     by_cases c3 : 0 ≤ x7_1
     ·rw [if_pos c3] at H
      have c3b0 : decide (0 ≤ x7_1) = true := decide_eq_true c3
      clear c3
      by_cases c4 : x7_1 < (l0.length : Int)
      ·rw [if_pos c4] at H
       have c4b0 : decide (x7_1 < (l0.length : Int)) = true := decide_eq_true c4
       clear c4
       by_cases c5 : (rd l0 x7_1) < (-1000000000000)
       ·rw [if_pos c5] at H
        have c5b0 : decide ((rd l0 x7_1) < (-1000000000000)) = true := decide_eq_true c5
        clear c5
        obtain rfl := Option.some.inj H
        simp only [Option.some.injEq, Prod.mk.injEq] at H
        obtain ⟨rfl⟩ := H
        have p191 : 0 ≤ (x7_1 : Int) := of_decide_eq_true (by first | (with_reducible assumption) | assumption)
        have q191 : x7_1 < (l0.length : Int) := of_decide_eq_true (by first | (with_reducible assumption) | assumption)
        obtain ⟨ad191, e191, hx191_0⟩ := Kd.at_int HR0.out x7_1 p191 q191
        cases e191
        replace p191 := eq_true p191
        replace q191 := eq_true q191
        go_wp2
        go_ret
        exact ⟨by first | rfl | (simp; done) | (simp [*]; done), by repeat (first | exact Drawn0.refl _ | apply Drawn0.step)⟩
       ·rw [if_neg c5] at H
        have c5b0 : decide ((rd l0 x7_1) < (-1000000000000)) = false := decide_eq_false c5
        clear c5
        by_cases c6 : (rd l0 x7_1) > 1000000000000
        ·rw [if_pos c6] at H
         have c6b0 : decide (1000000000000 < (rd l0 x7_1)) = true := decide_eq_true c6
         clear c6
         obtain rfl := Option.some.inj H
         simp only [Option.some.injEq, Prod.mk.injEq] at H
         obtain ⟨rfl⟩ := H
         have p191 : 0 ≤ (x7_1 : Int) := of_decide_eq_true (by first | (with_reducible assumption) | assumption)
         have q191 : x7_1 < (l0.length : Int) := of_decide_eq_true (by first | (with_reducible assumption) | assumption)
         obtain ⟨ad191, e191, hx191_0⟩ := Kd.at_int HR0.out x7_1 p191 q191
         cases e191
         replace p191 := eq_true p191
         replace q191 := eq_true q191
         go_wp2
         go_ret
         exact ⟨by first | rfl | (simp; done) | (simp [*]; done), by repeat (first | exact Drawn0.refl _ | apply Drawn0.step)⟩
        ·rw [if_neg c6] at H
         have c6b0 : decide (1000000000000 < (rd l0 x7_1)) = false := decide_eq_false c6
         clear c6
         have H' := Aside0.mk H
         clear H
         have p191 : 0 ≤ (x7_1 : Int) := of_decide_eq_true (by first | (with_reducible assumption) | assumption)
         have q191 : x7_1 < (l0.length : Int) := of_decide_eq_true (by first | (with_reducible assumption) | assumption)
         obtain ⟨ad191, e191, hx191_0⟩ := Kd.at_int HR0.out x7_1 p191 q191
         cases e191
         replace p191 := eq_true p191
         replace q191 := eq_true q191
         go_wp2
         go_roundg k1
         case measure => have := HK1.out; omega
         case rel => exact ⟨(wrap64 (x7_1 + 1)), (by first | rfl | (simp; done) | (simp [*]; done)), H', ⟨by have := HK1.out; omega⟩, by repeat (first | exact Drawn0.refl _ | apply Drawn0.step)⟩
      ·rw [if_neg c4] at H
       exact absurd H (by simp)
     ·rw [if_neg c3] at H
      exact absurd H (by simp)
    ·rw [if_neg c2] at H
     have c2b0 : decide (x7_1 < (l0.length : Int)) = false := decide_eq_false c2
     clear c2
     obtain rfl := Option.some.inj H
     simp only [Option.some.injEq, Prod.mk.injEq] at H
     obtain ⟨rfl⟩ := H
     go_wp2
     go_ret
     exact ⟨by first | rfl | (simp; done) | (simp [*]; done), by repeat (first | exact Drawn0.refl _ | apply Drawn0.step)⟩

end Go.Proofs.Yteoieencagcgdaa.PX
end
section
namespace Go.Proofs.Yteoieencagcgdaa.PX
open Go.RowKit Go.Proofs.YteoieencagcgdaaW.PrintWords Go.Proofs.YteoieencagcgdaaW.PrintLast Go.Proofs.YteoieencagcgdaaW.PrintMore
attribute [local go_sem] max2_int min2_int max_two min_two max_three min_three max_four min_four
set_option linter.unusedVariables false
set_option linter.unusedSimpArgs false

mutual
def money_Scale.j0 : Nat → Int → Int → Int → Int → Bool → Option (Int × Int)
  | 0, _, _, _, _, _ => none
  | k + 1, x0, x1, x2, x3, x34 => if x34 = true then (some (0, 2)) else ((exact_MulDiv.f k (IntKind.u64.wrap (mx x0 (wrap64 (-x0)))) (IntKind.u64.wrap (x1)) (IntKind.u64.wrap (x2)) x3).bind fun bt210 => (if bt210.2 = 0 then (money_Scale.j1 k x0 bt210.1 (decide (bt210.1 > 1000000000000))) else (money_Scale.j1 k x0 bt210.1 true)))
def money_Scale.j1 : Nat → Int → Int → Bool → Option (Int × Int)
  | 0, _, _, _ => none
  | k + 1, x0, x11, x55 => if x55 = true then (some (0, 3)) else (if x0 < 0 then (some (wrap64 (-(wrap64 (x11))), 0)) else (some (wrap64 (x11), 0)))
end
def money_Scale.f (k : Nat) (a0 : Int) (a1 : Int) (a2 : Int) (a3 : Int) : Option (Int × Int) := (money_amounts.f k (([a0, a1, a2] : List Int))).bind fun t209 => (if t209 = true then (if a1 < 0 then (money_Scale.j0 k a0 a1 a2 a3 true) else (if a2 < 1 then (money_Scale.j0 k a0 a1 a2 a3 true) else (if a3 < 0 then (money_Scale.j0 k a0 a1 a2 a3 true) else (money_Scale.j0 k a0 a1 a2 a3 (decide (a3 > 3)))))) else (money_Scale.j0 k a0 a1 a2 a3 true))
set_option maxHeartbeats 8000000 in
set_option maxRecDepth 100000 in
theorem money_Scale.calls (k : Nat) (a0 : Int) (a1 : Int) (a2 : Int) (a3 : Int) (r1 : Int) (r2 : Int) (w : World) (h : money_Scale.f k a0 a1 a2 a3 = some (r1, r2)) :
   Calls Try.prog 50 #[.int .i64 a0, .int .i64 a1, .int .i64 a2, .int .i64 a3] w fun e w' => e = .returned (.tuple #[.int .i64 r1, .int .i64 r2]) ∧ Below w.heap.size w w' := by
  have HB := Aside0.mk (Below.refl w.heap.size w)
  have H : ((money_amounts.f k (([a0, a1, a2] : List Int))).bind fun t209 => (if t209 = true then (if a1 < 0 then (money_Scale.j0 k a0 a1 a2 a3 true) else (if a2 < 1 then (money_Scale.j0 k a0 a1 a2 a3 true) else (if a3 < 0 then (money_Scale.j0 k a0 a1 a2 a3 true) else (money_Scale.j0 k a0 a1 a2 a3 (decide (a3 > 3)))))) else (money_Scale.j0 k a0 a1 a2 a3 true))) = some (r1, r2) := h
  clear h
  have HC5 := Aside0.mk H
  clear H
  go_enter Try.func50, Try.ntmps50
  go_upto_region 1 with (fail)
  go_cut [34] (fun v34 wc => ∃ (kq : Nat) (x34_4 : Bool), v34 = .bool x34_4 ∧ Aside0 (money_Scale.j0 kq a0 a1 a2 a3 x34_4 = some (r1, r2)) ∧ Aside0 (kq ≤ k) ∧ Aside0 (Below w.heap.size w wc))
  case first =>
   have H := HC5.out
   clear HC5
   obtain ⟨y206, hy206⟩ : ∃ y_ : List Int, y_ = (([a0, a1, a2] : List Int)) := ⟨_, rfl⟩
   replace H : ((money_amounts.f k y206).bind fun t209 => (if t209 = true then (if a1 < 0 then (money_Scale.j0 k a0 a1 a2 a3 true) else (if a2 < 1 then (money_Scale.j0 k a0 a1 a2 a3 true) else (if a3 < 0 then (money_Scale.j0 k a0 a1 a2 a3 true) else (money_Scale.j0 k a0 a1 a2 a3 (decide (a3 > 3)))))) else (money_Scale.j0 k a0 a1 a2 a3 true))) = some (r1, r2) := by first | (rw [hy206]; with_reducible exact H) | (have H2_ := (Option.bind_some _ _).symm.trans H; rw [hy206]; with_reducible exact H2_) | (have H2_ := (Option.bind_some _ _).symm.trans H; with_reducible exact H2_) | with_reducible exact H | (rw [hy206]; exact H) | exact H
   have Ny206 := Aside0.mk hy206
   clear hy206
   replace H := Option.bind_eq_some_iff.mp H
   obtain ⟨t209, A60, H⟩ := H
   replace H : (if t209 = true then (if a1 < 0 then (money_Scale.j0 k a0 a1 a2 a3 true) else (if a2 < 1 then (money_Scale.j0 k a0 a1 a2 a3 true) else (if a3 < 0 then (money_Scale.j0 k a0 a1 a2 a3 true) else (money_Scale.j0 k a0 a1 a2 a3 (decide (a3 > 3)))))) else (money_Scale.j0 k a0 a1 a2 a3 true)) = some (r1, r2) := H
   have A6 := Aside0.mk A60
   clear A60
   by_cases c7 : t209 = true
   ·subst c7
    have H1 : (if a1 < 0 then (money_Scale.j0 k a0 a1 a2 a3 true) else (if a2 < 1 then (money_Scale.j0 k a0 a1 a2 a3 true) else (if a3 < 0 then (money_Scale.j0 k a0 a1 a2 a3 true) else (money_Scale.j0 k a0 a1 a2 a3 (decide (a3 > 3)))))) = some (r1, r2) := by rw [if_pos rfl] at H; exact H
    clear H
    have H := H1
    clear H1
    by_cases c8 : a1 < 0
    ·rw [if_pos c8] at H
     have c8b0 : decide (a1 < 0) = true := decide_eq_true c8
     clear c8
     (first | rw [c8b0] | (simp only [i64_w, i32_w]; rw [c8b0]) | skip)
     have H' := Aside0.mk H
     clear H
     go_wp2_with (first | ((with_reducible refine gate_dst (N := 16) rfl ?_); refine Kd.R_lit (Kd.int .i64) _ 3 ?hg (N := 16) ?hd (xs := ([a0, a1, a2] : List Int)) (inner := [.int .i64 a0, .int .i64 a1, .int .i64 a2]) (ok := fun _ => True) (okp := fun _ => True) ?hr ?hp (fun _ hk => hk) trivial (Below.refl _ _) (Nat.le_refl _) (by simp) ?_; (case hd => rfl); (case hg => rfl); (case hr => first | (go_simp; done) | (go_simp; rfl)); (case hp => exact (Reps.one (show Kd.M (Kd.int .i64) _ _ _ a0 [.int .i64 a0] from rfl) (Reps.one (show Kd.M (Kd.int .i64) _ _ _ a1 [.int .i64 a1] from rfl) (Reps.one (show Kd.M (Kd.int .i64) _ _ _ a2 [.int .i64 a2] from rfl) (Reps.none _ _))))); intro v207 w9 ho10 hb hg_ hnew_; clear hg_ hnew_; (first | rw [← Ny206.out] at ho10 | (simp only [Int.reduceToNat] at ho10; rw [← Ny206.out] at ho10)); have n0_ := rL ho10 HB; have n1_ := hB HB hb; clear HB; have HO208 := n0_; have HB := n1_; clear n0_ n1_; clear hb ho10; obtain ⟨Ao11, co11, eo11⟩ := Kd.R_slice HO208.out; subst eo11) | ((with_reducible refine gate_callee (f := 39) rfl ?_); refine goA (some 17) Try.func39 #[.slice Ao11 y206.length co11] ?_; (with_reducible refine (money_amounts.calls k _ _ y206 true _ ?side1 ?side2 A6.out).mono ?_); (case side1 => repeat (first | exact (Kd.R_reads' HO208.out).2.2 | (with_reducible refine Kd.C_alloc ?_ _) | (with_reducible refine Kd.C_drewN ?_ _) | (with_reducible refine Kd.C_drew ?_))); (case side2 => exact (Kd.R_reads' HO208.out).2.1); rintro e w' ⟨rfl, ⟨nd, rfl⟩⟩; refine ⟨_, rfl, ?_⟩))
     go_meet
     case rel => exact ⟨_, (true), (by first | rfl | (simp; done) | (simp [*]; done)), H', ⟨by first | omega | exact Nat.le_refl _⟩, ⟨aH HB⟩⟩
    ·rw [if_neg c8] at H
     have c8b0 : decide (a1 < 0) = false := decide_eq_false c8
     clear c8
     (first | rw [c8b0] | (simp only [i64_w, i32_w]; rw [c8b0]) | skip)
     by_cases c12 : a2 < 1
     ·rw [if_pos c12] at H
      have c12b0 : decide (a2 < 1) = true := decide_eq_true c12
      clear c12
      have H' := Aside0.mk H
      clear H
      go_wp2_with (first | ((with_reducible refine gate_dst (N := 16) rfl ?_); refine Kd.R_lit (Kd.int .i64) _ 3 ?hg (N := 16) ?hd (xs := ([a0, a1, a2] : List Int)) (inner := [.int .i64 a0, .int .i64 a1, .int .i64 a2]) (ok := fun _ => True) (okp := fun _ => True) ?hr ?hp (fun _ hk => hk) trivial (Below.refl _ _) (Nat.le_refl _) (by simp) ?_; (case hd => rfl); (case hg => rfl); (case hr => first | (go_simp; done) | (go_simp; rfl)); (case hp => exact (Reps.one (show Kd.M (Kd.int .i64) _ _ _ a0 [.int .i64 a0] from rfl) (Reps.one (show Kd.M (Kd.int .i64) _ _ _ a1 [.int .i64 a1] from rfl) (Reps.one (show Kd.M (Kd.int .i64) _ _ _ a2 [.int .i64 a2] from rfl) (Reps.none _ _))))); intro v207 w13 ho14 hb hg_ hnew_; clear hg_ hnew_; (first | rw [← Ny206.out] at ho14 | (simp only [Int.reduceToNat] at ho14; rw [← Ny206.out] at ho14)); have n0_ := rL ho14 HB; have n1_ := hB HB hb; clear HB; have HO208 := n0_; have HB := n1_; clear n0_ n1_; clear hb ho14; obtain ⟨Ao15, co15, eo15⟩ := Kd.R_slice HO208.out; subst eo15) | ((with_reducible refine gate_callee (f := 39) rfl ?_); refine goA (some 17) Try.func39 #[.slice Ao15 y206.length co15] ?_; (with_reducible refine (money_amounts.calls k _ _ y206 true _ ?side1 ?side2 A6.out).mono ?_); (case side1 => repeat (first | exact (Kd.R_reads' HO208.out).2.2 | (with_reducible refine Kd.C_alloc ?_ _) | (with_reducible refine Kd.C_drewN ?_ _) | (with_reducible refine Kd.C_drew ?_))); (case side2 => exact (Kd.R_reads' HO208.out).2.1); rintro e w' ⟨rfl, ⟨nd, rfl⟩⟩; refine ⟨_, rfl, ?_⟩))
      go_meet
      case rel => exact ⟨_, (true), (by first | rfl | (simp; done) | (simp [*]; done)), H', ⟨by first | omega | exact Nat.le_refl _⟩, ⟨aH HB⟩⟩
     ·rw [if_neg c12] at H
      have c12b0 : decide (a2 < 1) = false := decide_eq_false c12
      clear c12
      by_cases c16 : a3 < 0
      ·rw [if_pos c16] at H
       have c16b0 : decide (a3 < 0) = true := decide_eq_true c16
       clear c16
       have H' := Aside0.mk H
       clear H
       go_wp2_with (first | ((with_reducible refine gate_dst (N := 16) rfl ?_); refine Kd.R_lit (Kd.int .i64) _ 3 ?hg (N := 16) ?hd (xs := ([a0, a1, a2] : List Int)) (inner := [.int .i64 a0, .int .i64 a1, .int .i64 a2]) (ok := fun _ => True) (okp := fun _ => True) ?hr ?hp (fun _ hk => hk) trivial (Below.refl _ _) (Nat.le_refl _) (by simp) ?_; (case hd => rfl); (case hg => rfl); (case hr => first | (go_simp; done) | (go_simp; rfl)); (case hp => exact (Reps.one (show Kd.M (Kd.int .i64) _ _ _ a0 [.int .i64 a0] from rfl) (Reps.one (show Kd.M (Kd.int .i64) _ _ _ a1 [.int .i64 a1] from rfl) (Reps.one (show Kd.M (Kd.int .i64) _ _ _ a2 [.int .i64 a2] from rfl) (Reps.none _ _))))); intro v207 w17 ho18 hb hg_ hnew_; clear hg_ hnew_; (first | rw [← Ny206.out] at ho18 | (simp only [Int.reduceToNat] at ho18; rw [← Ny206.out] at ho18)); have n0_ := rL ho18 HB; have n1_ := hB HB hb; clear HB; have HO208 := n0_; have HB := n1_; clear n0_ n1_; clear hb ho18; obtain ⟨Ao19, co19, eo19⟩ := Kd.R_slice HO208.out; subst eo19) | ((with_reducible refine gate_callee (f := 39) rfl ?_); refine goA (some 17) Try.func39 #[.slice Ao19 y206.length co19] ?_; (with_reducible refine (money_amounts.calls k _ _ y206 true _ ?side1 ?side2 A6.out).mono ?_); (case side1 => repeat (first | exact (Kd.R_reads' HO208.out).2.2 | (with_reducible refine Kd.C_alloc ?_ _) | (with_reducible refine Kd.C_drewN ?_ _) | (with_reducible refine Kd.C_drew ?_))); (case side2 => exact (Kd.R_reads' HO208.out).2.1); rintro e w' ⟨rfl, ⟨nd, rfl⟩⟩; refine ⟨_, rfl, ?_⟩))
       go_meet
       case rel => exact ⟨_, (true), (by first | rfl | (simp; done) | (simp [*]; done)), H', ⟨by first | omega | exact Nat.le_refl _⟩, ⟨aH HB⟩⟩
      ·rw [if_neg c16] at H
       have c16b0 : decide (a3 < 0) = false := decide_eq_false c16
       clear c16
       have H' := Aside0.mk H
       clear H
       go_wp2_with (first | ((with_reducible refine gate_dst (N := 16) rfl ?_); refine Kd.R_lit (Kd.int .i64) _ 3 ?hg (N := 16) ?hd (xs := ([a0, a1, a2] : List Int)) (inner := [.int .i64 a0, .int .i64 a1, .int .i64 a2]) (ok := fun _ => True) (okp := fun _ => True) ?hr ?hp (fun _ hk => hk) trivial (Below.refl _ _) (Nat.le_refl _) (by simp) ?_; (case hd => rfl); (case hg => rfl); (case hr => first | (go_simp; done) | (go_simp; rfl)); (case hp => exact (Reps.one (show Kd.M (Kd.int .i64) _ _ _ a0 [.int .i64 a0] from rfl) (Reps.one (show Kd.M (Kd.int .i64) _ _ _ a1 [.int .i64 a1] from rfl) (Reps.one (show Kd.M (Kd.int .i64) _ _ _ a2 [.int .i64 a2] from rfl) (Reps.none _ _))))); intro v207 w20 ho21 hb hg_ hnew_; clear hg_ hnew_; (first | rw [← Ny206.out] at ho21 | (simp only [Int.reduceToNat] at ho21; rw [← Ny206.out] at ho21)); have n0_ := rL ho21 HB; have n1_ := hB HB hb; clear HB; have HO208 := n0_; have HB := n1_; clear n0_ n1_; clear hb ho21; obtain ⟨Ao22, co22, eo22⟩ := Kd.R_slice HO208.out; subst eo22) | ((with_reducible refine gate_callee (f := 39) rfl ?_); refine goA (some 17) Try.func39 #[.slice Ao22 y206.length co22] ?_; (with_reducible refine (money_amounts.calls k _ _ y206 true _ ?side1 ?side2 A6.out).mono ?_); (case side1 => repeat (first | exact (Kd.R_reads' HO208.out).2.2 | (with_reducible refine Kd.C_alloc ?_ _) | (with_reducible refine Kd.C_drewN ?_ _) | (with_reducible refine Kd.C_drew ?_))); (case side2 => exact (Kd.R_reads' HO208.out).2.1); rintro e w' ⟨rfl, ⟨nd, rfl⟩⟩; refine ⟨_, rfl, ?_⟩))
       go_meet
       case rel => exact ⟨_, (decide (a3 > 3)), (by first | rfl | (simp; done) | (simp [*]; done)), H', ⟨by first | omega | exact Nat.le_refl _⟩, ⟨aH HB⟩⟩
   ·replace c7 := Bool.eq_false_iff.mpr c7
    subst c7
    have H1 : (money_Scale.j0 k a0 a1 a2 a3 true) = some (r1, r2) := by rw [if_neg (show ¬ (false = true) by decide)] at H; exact H
    clear H
    have H := H1
    clear H1
    have H' := Aside0.mk H
    clear H
    go_wp2_with (first | ((with_reducible refine gate_dst (N := 16) rfl ?_); refine Kd.R_lit (Kd.int .i64) _ 3 ?hg (N := 16) ?hd (xs := ([a0, a1, a2] : List Int)) (inner := [.int .i64 a0, .int .i64 a1, .int .i64 a2]) (ok := fun _ => True) (okp := fun _ => True) ?hr ?hp (fun _ hk => hk) trivial (Below.refl _ _) (Nat.le_refl _) (by simp) ?_; (case hd => rfl); (case hg => rfl); (case hr => first | (go_simp; done) | (go_simp; rfl)); (case hp => exact (Reps.one (show Kd.M (Kd.int .i64) _ _ _ a0 [.int .i64 a0] from rfl) (Reps.one (show Kd.M (Kd.int .i64) _ _ _ a1 [.int .i64 a1] from rfl) (Reps.one (show Kd.M (Kd.int .i64) _ _ _ a2 [.int .i64 a2] from rfl) (Reps.none _ _))))); intro v207 w23 ho24 hb hg_ hnew_; clear hg_ hnew_; (first | rw [← Ny206.out] at ho24 | (simp only [Int.reduceToNat] at ho24; rw [← Ny206.out] at ho24)); have n0_ := rL ho24 HB; have n1_ := hB HB hb; clear HB; have HO208 := n0_; have HB := n1_; clear n0_ n1_; clear hb ho24; obtain ⟨Ao25, co25, eo25⟩ := Kd.R_slice HO208.out; subst eo25) | ((with_reducible refine gate_callee (f := 39) rfl ?_); refine goA (some 17) Try.func39 #[.slice Ao25 y206.length co25] ?_; (with_reducible refine (money_amounts.calls k _ _ y206 false _ ?side1 ?side2 A6.out).mono ?_); (case side1 => repeat (first | exact (Kd.R_reads' HO208.out).2.2 | (with_reducible refine Kd.C_alloc ?_ _) | (with_reducible refine Kd.C_drewN ?_ _) | (with_reducible refine Kd.C_drew ?_))); (case side2 => exact (Kd.R_reads' HO208.out).2.1); rintro e w' ⟨rfl, ⟨nd, rfl⟩⟩; refine ⟨_, rfl, ?_⟩))
    go_meet
    case rel => exact ⟨_, (true), (by first | rfl | (simp; done) | (simp [*]; done)), H', ⟨by first | omega | exact Nat.le_refl _⟩, ⟨aH HB⟩⟩
  case rest =>
   clear HC5
   try clear c1
   try clear p2
   try clear c3
   try clear c5
   try clear c7
   try clear c8
   try clear c8b0
   try clear c12
   try clear c12b0
   try clear c16
   try clear c16b0
   obtain ⟨kq, x34_4, rfl, HA, HJ4, HB⟩ := hcut
   cases kq with
   | zero => exact absurd HA.out (by simp [money_Scale.j0])
   | succ kj4 =>
    have H := HA.out
    clear HA
    simp only [money_Scale.j0] at H
    by_cases c26 : x34_4 = true
    ·subst c26
     have H1 : (some (0, 2)) = some (r1, r2) := by rw [if_pos rfl] at H; exact H
     clear H
     have H := H1
     clear H1
     simp only [Option.some.injEq, Prod.mk.injEq] at H
     obtain ⟨rfl, rfl⟩ := H
     go_wp2
     go_ret2
     exact ⟨by first | rfl | (simp [errW_none, errW_some] <;> rfl) | (simp [*, errW_none, errW_some] <;> rfl) | (simp (disch := first | assumption | omega) only [Int.tdiv_eq_ediv_of_nonneg, Int.tmod_eq_emod_of_nonneg]; rfl), aH HB⟩
    ·replace c26 := Bool.eq_false_iff.mpr c26
     subst c26
     have H1 : ((exact_MulDiv.f kj4 (IntKind.u64.wrap (mx a0 (wrap64 (-a0)))) (IntKind.u64.wrap (a1)) (IntKind.u64.wrap (a2)) a3).bind fun bt210 => (if bt210.2 = 0 then (money_Scale.j1 kj4 a0 bt210.1 (decide (bt210.1 > 1000000000000))) else (money_Scale.j1 kj4 a0 bt210.1 true))) = some (r1, r2) := by rw [if_neg (show ¬ (false = true) by decide)] at H; exact H
     clear H
     have H := H1
     clear H1
     obtain ⟨ji27, hji27⟩ : ∃ j_ : Int, (mx a0 (wrap64 (-a0))) = j_ := ⟨_, rfl⟩
     replace H : ((exact_MulDiv.f kj4 (IntKind.u64.wrap (ji27)) (IntKind.u64.wrap (a1)) (IntKind.u64.wrap (a2)) a3).bind fun bt210 => (if bt210.2 = 0 then (money_Scale.j1 kj4 a0 bt210.1 (decide (bt210.1 > 1000000000000))) else (money_Scale.j1 kj4 a0 bt210.1 true))) = some (r1, r2) := by first | (rw [hji27] at H; exact H) | (simp only [hji27] at H ⊢; exact H)
     have hji27_ : (if a0 < (wrap64 (-a0)) then (wrap64 (-a0)) else a0) = ji27 := hji27
     replace H := Option.bind_eq_some_iff.mp H
     obtain ⟨⟨t210, t211⟩, A280, H⟩ := H
     replace H : (if t211 = 0 then (money_Scale.j1 kj4 a0 t210 (decide (t210 > 1000000000000))) else (money_Scale.j1 kj4 a0 t210 true)) = some (r1, r2) := H
     have A28 := Aside0.mk A280
     clear A280
     have HC29 := Aside0.mk H
     clear H
     go_upto_region 5 with (first | ((with_reducible refine gate_callee (f := 41) rfl ?_); refine goesL_ (some 47) rfl rfl Try.func41 (by kernel_rfl) rfl #[.int .u64 (IntKind.u64.wrap (ji27)), .int .u64 (IntKind.u64.wrap (a1)), .int .u64 (IntKind.u64.wrap (a2)), .int .i64 a3] rfl (by (try simp only [List.map_toArray, List.map_cons, List.map_nil]); first | done | (simp only [hji27]; rfl) | rfl | (simp only [List.length_drop, List.length_take]; rfl)) ?_; (with_reducible refine (exact_MulDiv.calls kj4 (IntKind.u64.wrap (ji27)) (IntKind.u64.wrap (a1)) (IntKind.u64.wrap (a2)) a3 t210 t211 _ A28.out).mono ?_); rintro e w30 ⟨rfl, hb⟩; refine ⟨_, rfl, ?_⟩; have n0_ := hB HB hb; clear HB; have HB := n0_; clear n0_; (try clear hb); (try clear hb2); (try clear hk); (try clear hi)))
     (try simp only [Act.put, List.setIfInBounds_toArray, List.set_cons_zero, List.set_cons_succ])
     go_cut [55] (fun v55 wc => ∃ (kq : Nat) (x55_28 : Bool), v55 = .bool x55_28 ∧ Aside0 (money_Scale.j1 kq a0 t210 x55_28 = some (r1, r2)) ∧ Aside0 (kq ≤ kj4) ∧ Aside0 (Below w.heap.size w wc))
     case first =>
      have H := HC29.out
      clear HC29
      by_cases c31 : t211 = 0
      ·rw [if_pos c31] at H
       have c31b0 : (t211 == 0) = true := beq_iff_eq.mpr c31
       have c31b1 : (t211 != 0) = false := bne_eq_false_iff_eq.mpr c31
       clear c31
       (first | rw [c31b0] | (simp only [i64_w, i32_w]; rw [c31b0]) | skip)
       have H' := Aside0.mk H
       clear H
       go_wp2
       go_meet
       case rel => exact ⟨_, (decide (t210 > 1000000000000)), (by first | rfl | (simp; done) | (simp [*]; done)), H', ⟨by have := HJ4.out; first | omega | exact Nat.le_refl _⟩, ⟨aH HB⟩⟩
      ·rw [if_neg c31] at H
       have c31b0 : (t211 == 0) = false := beq_eq_false_iff_ne.mpr c31
       have c31b1 : (t211 != 0) = true := bne_iff_ne.mpr c31
       (first | rw [c31b0] | (simp only [i64_w, i32_w]; rw [c31b0]) | skip)
       have H' := Aside0.mk H
       clear H
       go_wp2
       go_meet
       case rel => exact ⟨_, (true), (by first | rfl | (simp; done) | (simp [*]; done)), H', ⟨by have := HJ4.out; first | omega | exact Nat.le_refl _⟩, ⟨aH HB⟩⟩
     case rest =>
      clear HC29
      try clear c1
      try clear c2
      try clear p2
      try clear c3
      try clear c4
      try clear c5
      try clear p6
      try clear c7
      try clear c8
      try clear c8b0
      try clear c12
      try clear c12b0
      try clear c16
      try clear c16b0
      try clear c26
      try clear c31
      try clear c31b0
      try clear c31b1
      try clear p2
      obtain ⟨kq, x55_28, rfl, HA, HJ28, HB⟩ := hcut
      cases kq with
      | zero => exact absurd HA.out (by simp [money_Scale.j1])
      | succ kj28 =>
       have H := HA.out
       clear HA
       simp only [money_Scale.j1] at H
       by_cases c32 : x55_28 = true
       ·subst c32
        have H1 : (some (0, 3)) = some (r1, r2) := by rw [if_pos rfl] at H; exact H
        clear H
        have H := H1
        clear H1
        simp only [Option.some.injEq, Prod.mk.injEq] at H
        obtain ⟨rfl, rfl⟩ := H
        go_wp2
        go_ret2
        exact ⟨by first | rfl | (simp [errW_none, errW_some] <;> rfl) | (simp only [← hji27]; first | rfl | (simp [errW_none, errW_some] <;> rfl)) | (simp [*, errW_none, errW_some] <;> rfl) | (simp (disch := first | assumption | omega) only [Int.tdiv_eq_ediv_of_nonneg, Int.tmod_eq_emod_of_nonneg]; rfl), aH HB⟩
       ·replace c32 := Bool.eq_false_iff.mpr c32
        subst c32
        have H1 : (if a0 < 0 then (some (wrap64 (-(wrap64 (t210))), 0)) else (some (wrap64 (t210), 0))) = some (r1, r2) := by rw [if_neg (show ¬ (false = true) by decide)] at H; exact H
        clear H
        have H := H1
        clear H1
        by_cases c33 : a0 < 0
        ·rw [if_pos c33] at H
         have c33b0 : decide (a0 < 0) = true := decide_eq_true c33
         clear c33
         simp only [Option.some.injEq, Prod.mk.injEq] at H
         obtain ⟨rfl, rfl⟩ := H
         go_wp2
         go_ret2
         exact ⟨by first | rfl | (simp [errW_none, errW_some] <;> rfl) | (simp only [← hji27]; first | rfl | (simp [errW_none, errW_some] <;> rfl)) | (simp [*, errW_none, errW_some] <;> rfl) | (simp (disch := first | assumption | omega) only [Int.tdiv_eq_ediv_of_nonneg, Int.tmod_eq_emod_of_nonneg]; rfl), aH HB⟩
        ·rw [if_neg c33] at H
         have c33b0 : decide (a0 < 0) = false := decide_eq_false c33
         clear c33
         simp only [Option.some.injEq, Prod.mk.injEq] at H
         obtain ⟨rfl, rfl⟩ := H
         go_wp2
         go_ret2
         exact ⟨by first | rfl | (simp [errW_none, errW_some] <;> rfl) | (simp only [← hji27]; first | rfl | (simp [errW_none, errW_some] <;> rfl)) | (simp [*, errW_none, errW_some] <;> rfl) | (simp (disch := first | assumption | omega) only [Int.tdiv_eq_ediv_of_nonneg, Int.tmod_eq_emod_of_nonneg]; rfl), aH HB⟩

end Go.Proofs.Yteoieencagcgdaa.PX
end
section
namespace Go.Proofs.Yteoieencagcgdaa.PX
open Go.RowKit Go.Proofs.YteoieencagcgdaaW.PrintWords Go.Proofs.YteoieencagcgdaaW.PrintLast Go.Proofs.YteoieencagcgdaaW.PrintMore
attribute [local go_sem] max2_int min2_int max_two min_two max_three min_three max_four min_four
set_option linter.unusedVariables false
set_option linter.unusedSimpArgs false

def currency_Cross.f (k : Nat) (l0 : List (S61)) (a1 : Int) (a2 : ByteArray) (a3 : ByteArray) (a4 : Int) (a5 : Int) : Option (Int × Int) := (currency_At.f k l0 a2 a4).bind fun bt212 => (if bt212.2 = 0 then ((currency_At.f k l0 a3 a4).bind fun bt214 => (if bt214.2 = 0 then ((money_Scale.f k a1 bt212.1 bt214.1 a5).bind fun bt216 => (some (bt216.1, bt216.2))) else (some (0, bt214.2)))) else (some (0, bt212.2)))
set_option maxHeartbeats 8000000 in
set_option maxRecDepth 100000 in
theorem currency_Cross.calls (k : Nat) (A0 : Option Addr) (c0 : Nat) (l0 : List (S61)) (a1 : Int) (a2 : ByteArray) (a3 : ByteArray) (a4 : Int) (a5 : Int) (r1 : Int) (r2 : Int) (w : World) (hr0 : Kd.C k61 w A0 l0.length l0) (hc0 : l0.length ≤ c0) (h : currency_Cross.f k l0 a1 a2 a3 a4 a5 = some (r1, r2)) :
   Calls Try.prog 38 #[.slice A0 l0.length c0, .int .i64 a1, .string a2, .string a3, .int .i64 a4, .int .i64 a5] w fun e w' => e = .returned (.tuple #[.int .i64 r1, .int .i64 r2]) ∧ Below w.heap.size w w' := by
  have HR0 := Aside0.mk hr0
  have HC0 := Aside0.mk hc0
  clear hr0 hc0
  have HB := Aside0.mk (Below.refl w.heap.size w)
  have H : ((currency_At.f k l0 a2 a4).bind fun bt212 => (if bt212.2 = 0 then ((currency_At.f k l0 a3 a4).bind fun bt214 => (if bt214.2 = 0 then ((money_Scale.f k a1 bt212.1 bt214.1 a5).bind fun bt216 => (some (bt216.1, bt216.2))) else (some (0, bt214.2)))) else (some (0, bt212.2)))) = some (r1, r2) := h
  clear h
  replace H := Option.bind_eq_some_iff.mp H
  obtain ⟨⟨t212, t213⟩, A70, H⟩ := H
  replace H : (if t213 = 0 then ((currency_At.f k l0 a3 a4).bind fun bt214 => (if bt214.2 = 0 then ((money_Scale.f k a1 t212 bt214.1 a5).bind fun bt216 => (some (bt216.1, bt216.2))) else (some (0, bt214.2)))) else (some (0, t213))) = some (r1, r2) := H
  have A7 := Aside0.mk A70
  clear A70
  by_cases c8 : t213 = 0
  ·rw [if_pos c8] at H
   have c8b0 : (t213 == 0) = true := beq_iff_eq.mpr c8
   have c8b1 : (t213 != 0) = false := bne_eq_false_iff_eq.mpr c8
   clear c8
   replace H := Option.bind_eq_some_iff.mp H
   obtain ⟨⟨t214, t215⟩, A90, H⟩ := H
   replace H : (if t215 = 0 then ((money_Scale.f k a1 t212 t214 a5).bind fun bt216 => (some (bt216.1, bt216.2))) else (some (0, t215))) = some (r1, r2) := H
   have A9 := Aside0.mk A90
   clear A90
   by_cases c10 : t215 = 0
   ·rw [if_pos c10] at H
    have c10b0 : (t215 == 0) = true := beq_iff_eq.mpr c10
    have c10b1 : (t215 != 0) = false := bne_eq_false_iff_eq.mpr c10
    clear c10
    replace H := Option.bind_eq_some_iff.mp H
    obtain ⟨⟨t216, t217⟩, A110, H⟩ := H
    replace H : (some (t216, t217)) = some (r1, r2) := H
    have A11 := Aside0.mk A110
    clear A110
    simp only [Option.some.injEq, Prod.mk.injEq] at H
    obtain ⟨rfl, rfl⟩ := H
    go_enter Try.func38, Try.ntmps38
    go_wp2_with (first | ((with_reducible refine gate_callee (f := 49) rfl ?_); refine goA (some 21) Try.func49 #[.slice A0 l0.length c0, .string a2, .int .i64 a4] ?_; (with_reducible refine (currency_At.calls k _ _ l0 a2 a4 t212 t213 _ ?side1 ?side2 A7.out).mono ?_); (case side1 => repeat (first | exact HR0.out | (with_reducible refine Kd.C_alloc ?_ _) | (with_reducible refine Kd.C_drewN ?_ _) | (with_reducible refine Kd.C_drew ?_))); (case side2 => exact HC0.out); rintro e w12 ⟨rfl, hb⟩; refine ⟨_, rfl, ?_⟩; have n0_ := hB HB hb; clear HB; have HB := n0_; clear n0_; clear hb) | ((with_reducible refine gate_callee (f := 49) rfl ?_); refine goA (some 31) Try.func49 #[.slice A0 l0.length c0, .string a3, .int .i64 a4] ?_; (with_reducible refine (currency_At.calls k _ _ l0 a3 a4 t214 t215 _ ?side1 ?side2 A9.out).mono ?_); (case side1 => repeat (first | exact (Kd.C_below HR0.out HB.out) | (with_reducible refine Kd.C_alloc ?_ _) | (with_reducible refine Kd.C_drewN ?_ _) | (with_reducible refine Kd.C_drew ?_))); (case side2 => exact HC0.out); rintro e w13 ⟨rfl, hb⟩; refine ⟨_, rfl, ?_⟩; have n0_ := hB HB hb; clear HB; have HB := n0_; clear n0_; clear hb) | ((with_reducible refine gate_callee (f := 50) rfl ?_); refine goA (some 41) Try.func50 #[.int .i64 a1, .int .i64 t212, .int .i64 t214, .int .i64 a5] ?_; (with_reducible refine (money_Scale.calls k a1 t212 t214 a5 t216 t217 _ A11.out).mono ?_); rintro e w14 ⟨rfl, hb⟩; refine ⟨_, rfl, ?_⟩; have n0_ := hB HB hb; clear HB; have HB := n0_; clear n0_; clear hb))
    go_ret2
    exact ⟨by first | rfl | (simp [errW_none, errW_some] <;> rfl) | (simp [*, errW_none, errW_some] <;> rfl) | (simp (disch := first | assumption | omega) only [Int.tdiv_eq_ediv_of_nonneg, Int.tmod_eq_emod_of_nonneg]; rfl), aH HB⟩
   ·rw [if_neg c10] at H
    have c10b0 : (t215 == 0) = false := beq_eq_false_iff_ne.mpr c10
    have c10b1 : (t215 != 0) = true := bne_iff_ne.mpr c10
    simp only [Option.some.injEq, Prod.mk.injEq] at H
    obtain ⟨rfl, rfl⟩ := H
    go_enter Try.func38, Try.ntmps38
    go_wp2_with (first | ((with_reducible refine gate_callee (f := 49) rfl ?_); refine goA (some 21) Try.func49 #[.slice A0 l0.length c0, .string a2, .int .i64 a4] ?_; (with_reducible refine (currency_At.calls k _ _ l0 a2 a4 t212 t213 _ ?side1 ?side2 A7.out).mono ?_); (case side1 => repeat (first | exact HR0.out | (with_reducible refine Kd.C_alloc ?_ _) | (with_reducible refine Kd.C_drewN ?_ _) | (with_reducible refine Kd.C_drew ?_))); (case side2 => exact HC0.out); rintro e w15 ⟨rfl, hb⟩; refine ⟨_, rfl, ?_⟩; have n0_ := hB HB hb; clear HB; have HB := n0_; clear n0_; clear hb) | ((with_reducible refine gate_callee (f := 49) rfl ?_); refine goA (some 31) Try.func49 #[.slice A0 l0.length c0, .string a3, .int .i64 a4] ?_; (with_reducible refine (currency_At.calls k _ _ l0 a3 a4 t214 t215 _ ?side1 ?side2 A9.out).mono ?_); (case side1 => repeat (first | exact (Kd.C_below HR0.out HB.out) | (with_reducible refine Kd.C_alloc ?_ _) | (with_reducible refine Kd.C_drewN ?_ _) | (with_reducible refine Kd.C_drew ?_))); (case side2 => exact HC0.out); rintro e w16 ⟨rfl, hb⟩; refine ⟨_, rfl, ?_⟩; have n0_ := hB HB hb; clear HB; have HB := n0_; clear n0_; clear hb))
    go_ret2
    exact ⟨by first | rfl | (simp [errW_none, errW_some] <;> rfl) | (simp [*, errW_none, errW_some] <;> rfl) | (simp (disch := first | assumption | omega) only [Int.tdiv_eq_ediv_of_nonneg, Int.tmod_eq_emod_of_nonneg]; rfl), aH HB⟩
  ·rw [if_neg c8] at H
   have c8b0 : (t213 == 0) = false := beq_eq_false_iff_ne.mpr c8
   have c8b1 : (t213 != 0) = true := bne_iff_ne.mpr c8
   simp only [Option.some.injEq, Prod.mk.injEq] at H
   obtain ⟨rfl, rfl⟩ := H
   go_enter Try.func38, Try.ntmps38
   go_wp2_with (first | ((with_reducible refine gate_callee (f := 49) rfl ?_); refine goA (some 21) Try.func49 #[.slice A0 l0.length c0, .string a2, .int .i64 a4] ?_; (with_reducible refine (currency_At.calls k _ _ l0 a2 a4 t212 t213 _ ?side1 ?side2 A7.out).mono ?_); (case side1 => repeat (first | exact HR0.out | (with_reducible refine Kd.C_alloc ?_ _) | (with_reducible refine Kd.C_drewN ?_ _) | (with_reducible refine Kd.C_drew ?_))); (case side2 => exact HC0.out); rintro e w17 ⟨rfl, hb⟩; refine ⟨_, rfl, ?_⟩; have n0_ := hB HB hb; clear HB; have HB := n0_; clear n0_; clear hb))
   go_ret2
   exact ⟨by first | rfl | (simp [errW_none, errW_some] <;> rfl) | (simp [*, errW_none, errW_some] <;> rfl) | (simp (disch := first | assumption | omega) only [Int.tdiv_eq_ediv_of_nonneg, Int.tmod_eq_emod_of_nonneg]; rfl), aH HB⟩

end Go.Proofs.Yteoieencagcgdaa.PX
end
section
namespace Go.Proofs.Yteoieencagcgdaa.PX
open Go.RowKit Go.Proofs.YteoieencagcgdaaW.PrintWords Go.Proofs.YteoieencagcgdaaW.PrintLast Go.Proofs.YteoieencagcgdaaW.PrintMore
attribute [local go_sem] max2_int min2_int max_two min_two max_three min_three max_four min_four
set_option linter.unusedVariables false
set_option linter.unusedSimpArgs false

def currency_Convert.f (k : Nat) (l0 : List (S61)) (a1 : Int) (a2 : ByteArray) (a3 : Int) (a4 : Int) : Option (Int × Int) := (currency_Cross.f k l0 a1 a2 (⟨#[69, 85, 82]⟩ : ByteArray) a3 a4).bind fun bt218 => (some (bt218.1, bt218.2))
set_option maxHeartbeats 8000000 in
set_option maxRecDepth 100000 in
theorem currency_Convert.calls (k : Nat) (A0 : Option Addr) (c0 : Nat) (l0 : List (S61)) (a1 : Int) (a2 : ByteArray) (a3 : Int) (a4 : Int) (r1 : Int) (r2 : Int) (w : World) (hr0 : Kd.C k61 w A0 l0.length l0) (hc0 : l0.length ≤ c0) (h : currency_Convert.f k l0 a1 a2 a3 a4 = some (r1, r2)) :
   Calls Try.prog 21 #[.slice A0 l0.length c0, .int .i64 a1, .string a2, .int .i64 a3, .int .i64 a4] w fun e w' => e = .returned (.tuple #[.int .i64 r1, .int .i64 r2]) ∧ Below w.heap.size w w' := by
  have HR0 := Aside0.mk hr0
  have HC0 := Aside0.mk hc0
  clear hr0 hc0
  have HB := Aside0.mk (Below.refl w.heap.size w)
  have H : ((currency_Cross.f k l0 a1 a2 (⟨#[69, 85, 82]⟩ : ByteArray) a3 a4).bind fun bt218 => (some (bt218.1, bt218.2))) = some (r1, r2) := h
  clear h
  replace H := Option.bind_eq_some_iff.mp H
  obtain ⟨⟨t218, t219⟩, A60, H⟩ := H
  replace H : (some (t218, t219)) = some (r1, r2) := H
  have A6 := Aside0.mk A60
  clear A60
  simp only [Option.some.injEq, Prod.mk.injEq] at H
  obtain ⟨rfl, rfl⟩ := H
  go_enter Try.func21, Try.ntmps21
  go_wp2_with (first | ((with_reducible refine gate_callee (f := 38) rfl ?_); refine goA (some 17) Try.func38 #[.slice A0 l0.length c0, .int .i64 a1, .string a2, .string (⟨#[69, 85, 82]⟩ : ByteArray), .int .i64 a3, .int .i64 a4] ?_; (with_reducible refine (currency_Cross.calls k _ _ l0 a1 a2 (⟨#[69, 85, 82]⟩ : ByteArray) a3 a4 t218 t219 _ ?side1 ?side2 A6.out).mono ?_); (case side1 => repeat (first | exact HR0.out | (with_reducible refine Kd.C_alloc ?_ _) | (with_reducible refine Kd.C_drewN ?_ _) | (with_reducible refine Kd.C_drew ?_))); (case side2 => exact HC0.out); rintro e w7 ⟨rfl, hb⟩; refine ⟨_, rfl, ?_⟩; have n0_ := hB HB hb; clear HB; have HB := n0_; clear n0_; clear hb))
  go_ret2
  exact ⟨by first | rfl | (simp [errW_none, errW_some] <;> rfl) | (simp [*, errW_none, errW_some] <;> rfl) | (simp (disch := first | assumption | omega) only [Int.tdiv_eq_ediv_of_nonneg, Int.tmod_eq_emod_of_nonneg]; rfl), aH HB⟩

end Go.Proofs.Yteoieencagcgdaa.PX
end
section
namespace Go.Proofs.Yteoieencagcgdaa.PX
open Go.RowKit Go.Proofs.YteoieencagcgdaaW.PrintWords Go.Proofs.YteoieencagcgdaaW.PrintLast Go.Proofs.YteoieencagcgdaaW.PrintMore
attribute [local go_sem] max2_int min2_int max_two min_two max_three min_three max_four min_four
set_option linter.unusedVariables false
set_option linter.unusedSimpArgs false

def customsref02_Same.l0 : Nat → List Int → List Int → Int → Option (Bool)
  | 0, _, _, _ => none
  | k + 1, x0, x1, x5 => if x5 < (x0.length : Int) then (if 0 ≤ x5 then (if x5 < (x1.length : Int) then (if (rd x0 x5) = (rd x1 x5) then (customsref02_Same.l0 k x0 x1 (wrap64 (x5 + 1))) else (some false)) else (none)) else (none)) else (some true)
def customsref02_Same.f (k : Nat) (l0 : List Int) (l1 : List Int) : Option (Bool) := if (l0.length : Int) = (l1.length : Int) then (customsref02_Same.l0 k l0 l1 0) else (some false)
set_option maxHeartbeats 8000000 in
set_option maxRecDepth 100000 in
theorem customsref02_Same.calls (k : Nat) (A0 : Option Addr) (c0 : Nat) (l0 : List Int) (A1 : Option Addr) (c1 : Nat) (l1 : List Int) (r : Bool) (w : World) (hr0 : Kd.C (Kd.int .i64) w A0 l0.length l0) (hc0 : l0.length ≤ c0) (hr1 : Kd.C (Kd.int .i64) w A1 l1.length l1) (hc1 : l1.length ≤ c1) (h : customsref02_Same.f k l0 l1 = some r) :
   Calls Try.prog 20 #[.slice A0 l0.length c0, .slice A1 l1.length c1] w fun e w' => e = .returned (.bool r) ∧ Drawn0 w w' := by
  have HR0 := Aside0.mk hr0
  have HC0 := Aside0.mk hc0
  clear hr0 hc0
  have HR1 := Aside0.mk hr1
  have HC1 := Aside0.mk hc1
  clear hr1 hc1
  have H : (if (l0.length : Int) = (l1.length : Int) then (customsref02_Same.l0 k l0 l1 0) else (some false)) = some r := h
  clear h
  by_cases c3 : (l0.length : Int) = (l1.length : Int)
  ·rw [if_pos c3] at H
   have c3b0 : ((l0.length : Int) == (l1.length : Int)) = true := beq_iff_eq.mpr c3
   have c3b1 : ((l0.length : Int) != (l1.length : Int)) = false := bne_eq_false_iff_eq.mpr c3
   have c3b2 : (l0.length == l1.length) = true := by first | simpa using c3 | (simp at c3 ⊢; omega)
   clear c3
   have H' := Aside0.mk H
   clear H
   go_enter Try.func20, Try.ntmps20
   go_wp2
   repeat (go_quiet (fail); try go_wp2)
   go_loopg [5] k (fun kq v5 w' => ∃ (x5_1 : Int), v5 = .int .i64 x5_1 ∧ Aside0 (customsref02_Same.l0 kq l0 l1 x5_1 = some r) ∧ Aside0 (kq ≤ k) ∧ Drawn0 w w')
   case atStart => exact ⟨(0), (by first | rfl | (simp; done) | (simp [*]; done)), H', ⟨Nat.le_refl _⟩, by repeat (first | exact Drawn0.refl _ | apply Drawn0.step)⟩
   case round =>
    clear H'
    try clear c1
    try clear c2
    try clear p2
    try clear c3
    try clear c3b0
    try clear c3b1
    try clear c3b2
    obtain ⟨x5_1, rfl, HA, HK1, ⟨m1, rfl⟩⟩ := hrel
    cases gk with
    | zero => exact absurd HA.out (by simp [customsref02_Same.l0])
    | succ k1 =>
     have H := HA.out
     clear HA
     simp only [customsref02_Same.l0] at H
     by_cases c4 : x5_1 < (l0.length : Int)
     ·rw [if_pos c4] at H
      have c4b0 : decide (x5_1 < (l0.length : Int)) = true := decide_eq_true c4
      clear c4
      by_cases c5 : 0 ≤ x5_1
      ·rw [if_pos c5] at H
       have c5b0 : decide (0 ≤ x5_1) = true := decide_eq_true c5
       clear c5
       by_cases c6 : x5_1 < (l1.length : Int)
       ·rw [if_pos c6] at H
        have c6b0 : decide (x5_1 < (l1.length : Int)) = true := decide_eq_true c6
        clear c6
        by_cases c7 : (rd l0 x5_1) = (rd l1 x5_1)
        ·rw [if_pos c7] at H
         have c7b0 : ((rd l0 x5_1) == (rd l1 x5_1)) = true := beq_iff_eq.mpr c7
         have c7b1 : ((rd l0 x5_1) != (rd l1 x5_1)) = false := bne_eq_false_iff_eq.mpr c7
         clear c7
         have H' := Aside0.mk H
         clear H
         have p274 : 0 ≤ (x5_1 : Int) := of_decide_eq_true (by first | (with_reducible assumption) | assumption)
         have q274 : x5_1 < (l0.length : Int) := of_decide_eq_true (by first | (with_reducible assumption) | assumption)
         obtain ⟨ad274, e274, hx274_0⟩ := Kd.at_int HR0.out x5_1 p274 q274
         cases e274
         replace p274 := eq_true p274
         replace q274 := eq_true q274
         have p275 : 0 ≤ (x5_1 : Int) := of_decide_eq_true (by first | (with_reducible assumption) | assumption)
         have q275 : x5_1 < (l1.length : Int) := of_decide_eq_true (by first | (with_reducible assumption) | assumption)
         obtain ⟨ad275, e275, hx275_0⟩ := Kd.at_int HR1.out x5_1 p275 q275
         cases e275
         replace p275 := eq_true p275
         replace q275 := eq_true q275
         go_wp2
         repeat (go_quiet (fail); try go_wp2)
         go_roundg k1
         case measure => have := HK1.out; omega
         case rel => exact ⟨(wrap64 (x5_1 + 1)), (by first | rfl | (simp; done) | (simp [*]; done)), H', ⟨by have := HK1.out; omega⟩, by repeat (first | exact Drawn0.refl _ | apply Drawn0.step)⟩
        ·rw [if_neg c7] at H
         have c7b0 : ((rd l0 x5_1) == (rd l1 x5_1)) = false := beq_eq_false_iff_ne.mpr c7
         have c7b1 : ((rd l0 x5_1) != (rd l1 x5_1)) = true := bne_iff_ne.mpr c7
         obtain rfl := Option.some.inj H
         simp only [Option.some.injEq, Prod.mk.injEq] at H
         obtain ⟨rfl⟩ := H
         have p274 : 0 ≤ (x5_1 : Int) := of_decide_eq_true (by first | (with_reducible assumption) | assumption)
         have q274 : x5_1 < (l0.length : Int) := of_decide_eq_true (by first | (with_reducible assumption) | assumption)
         obtain ⟨ad274, e274, hx274_0⟩ := Kd.at_int HR0.out x5_1 p274 q274
         cases e274
         replace p274 := eq_true p274
         replace q274 := eq_true q274
         have p275 : 0 ≤ (x5_1 : Int) := of_decide_eq_true (by first | (with_reducible assumption) | assumption)
         have q275 : x5_1 < (l1.length : Int) := of_decide_eq_true (by first | (with_reducible assumption) | assumption)
         obtain ⟨ad275, e275, hx275_0⟩ := Kd.at_int HR1.out x5_1 p275 q275
         cases e275
         replace p275 := eq_true p275
         replace q275 := eq_true q275
         go_wp2
         repeat (go_quiet (fail); try go_wp2)
         go_ret
         exact ⟨by first | rfl | (simp; done) | (simp [*]; done), by repeat (first | exact Drawn0.refl _ | apply Drawn0.step)⟩
       ·rw [if_neg c6] at H
        exact absurd H (by simp)
      ·rw [if_neg c5] at H
       exact absurd H (by simp)
     ·rw [if_neg c4] at H
      have c4b0 : decide (x5_1 < (l0.length : Int)) = false := decide_eq_false c4
      clear c4
      obtain rfl := Option.some.inj H
      simp only [Option.some.injEq, Prod.mk.injEq] at H
      obtain ⟨rfl⟩ := H
      go_wp2
      repeat (go_quiet (fail); try go_wp2)
      go_ret
      exact ⟨by first | rfl | (simp; done) | (simp [*]; done), by repeat (first | exact Drawn0.refl _ | apply Drawn0.step)⟩
  ·rw [if_neg c3] at H
   have c3b0 : ((l0.length : Int) == (l1.length : Int)) = false := beq_eq_false_iff_ne.mpr c3
   have c3b1 : ((l0.length : Int) != (l1.length : Int)) = true := bne_iff_ne.mpr c3
   have c3b2 : (l0.length == l1.length) = false := by first | simpa using c3 | (simp at c3 ⊢; omega)
   obtain rfl := Option.some.inj H
   simp only [Option.some.injEq, Prod.mk.injEq] at H
   obtain ⟨rfl⟩ := H
   go_enter Try.func20, Try.ntmps20
   go_wp2
   repeat (go_quiet (fail); try go_wp2)
   go_ret
   exact ⟨by first | rfl | (simp; done) | (simp [*]; done), by repeat (first | exact Drawn0.refl _ | apply Drawn0.step)⟩

end Go.Proofs.Yteoieencagcgdaa.PX
end
section
namespace Go.Proofs.Yteoieencagcgdaa.PX
open Go.RowKit Go.Proofs.YteoieencagcgdaaW.PrintWords Go.Proofs.YteoieencagcgdaaW.PrintLast Go.Proofs.YteoieencagcgdaaW.PrintMore
attribute [local go_sem] max2_int min2_int max_two min_two max_three min_three max_four min_four
set_option linter.unusedVariables false
set_option linter.unusedSimpArgs false

mutual
def money_Sum.l0 : Nat → Int → Int → List Int → Int → Int → Option (Int × Int)
  | 0, _, _, _, _, _ => none
  | k + 1, x4, x5, x12, x13, x14 => if x14 < x13 then (if 0 ≤ x14 then (if x14 < (x12.length : Int) then (money_Sum.l0 k (wrap64 (x4 + (wrap64 (Int.tdiv (rd x12 x14) 1000000)))) (wrap64 (x5 + (Int.tmod (rd x12 x14) 1000000))) x12 x13 (wrap64 (x14 + 1))) else (none)) else (none)) else (if (wrap64 (x4 + (wrap64 (Int.tdiv x5 1000000)))) > 1000001 then (money_Sum.j1 k (wrap64 (x4 + (wrap64 (Int.tdiv x5 1000000)))) (Int.tmod x5 1000000) true) else (money_Sum.j1 k (wrap64 (x4 + (wrap64 (Int.tdiv x5 1000000)))) (Int.tmod x5 1000000) (decide ((wrap64 (x4 + (wrap64 (Int.tdiv x5 1000000)))) < (-1000001)))))
def money_Sum.j1 : Nat → Int → Int → Bool → Option (Int × Int)
  | 0, _, _, _ => none
  | k + 1, x4, x5, x38 => if x38 = true then (some (0, 3)) else ((money_amounts.f k (([wrap64 ((wrap64 (x4 * 1000000)) + x5)] : List Int))).bind fun t225 => (if t225 = true then (some (wrap64 ((wrap64 (x4 * 1000000)) + x5), 0)) else (some (0, 3))))
end
def money_Sum.f (k : Nat) (l0 : List Int) : Option (Int × Int) := (money_amounts.f k l0).bind fun t220 => (if t220 = true then (money_Sum.l0 k 0 0 l0 (l0.length : Int) 0) else (some (0, 2)))
set_option maxHeartbeats 8000000 in
set_option maxRecDepth 100000 in
theorem money_Sum.calls (k : Nat) (A0 : Option Addr) (c0 : Nat) (l0 : List Int) (r1 : Int) (r2 : Int) (w : World) (hr0 : Kd.C (Kd.int .i64) w A0 l0.length l0) (hc0 : l0.length ≤ c0) (h : money_Sum.f k l0 = some (r1, r2)) :
   Calls Try.prog 30 #[.slice A0 l0.length c0] w fun e w' => e = .returned (.tuple #[.int .i64 r1, .int .i64 r2]) ∧ Below w.heap.size w w' := by
  have HR0 := Aside0.mk hr0
  have HC0 := Aside0.mk hc0
  clear hr0 hc0
  have HB := Aside0.mk (Below.refl w.heap.size w)
  have H : ((money_amounts.f k l0).bind fun t220 => (if t220 = true then (money_Sum.l0 k 0 0 l0 (l0.length : Int) 0) else (some (0, 2)))) = some (r1, r2) := h
  clear h
  replace H := Option.bind_eq_some_iff.mp H
  obtain ⟨t220, A20, H⟩ := H
  replace H : (if t220 = true then (money_Sum.l0 k 0 0 l0 (l0.length : Int) 0) else (some (0, 2))) = some (r1, r2) := H
  have A2 := Aside0.mk A20
  clear A20
  by_cases c3 : t220 = true
  ·subst c3
   have H1 : (money_Sum.l0 k 0 0 l0 (l0.length : Int) 0) = some (r1, r2) := by rw [if_pos rfl] at H; exact H
   clear H
   have H := H1
   clear H1
   have H' := Aside0.mk H
   clear H
   go_enter Try.func30, Try.ntmps30
   go_wp2_with (first | ((with_reducible refine gate_callee (f := 39) rfl ?_); refine goA (some 10) Try.func39 #[.slice A0 l0.length c0] ?_; (with_reducible refine (money_amounts.calls k _ _ l0 true _ ?side1 ?side2 A2.out).mono ?_); (case side1 => repeat (first | exact HR0.out | (with_reducible refine Kd.C_alloc ?_ _) | (with_reducible refine Kd.C_drewN ?_ _) | (with_reducible refine Kd.C_drew ?_))); (case side2 => exact HC0.out); rintro e w' ⟨rfl, ⟨nd, rfl⟩⟩; refine ⟨_, rfl, ?_⟩))
   go_loopg [4, 5, 14] k (fun kq v4 v5 v14 w' => ∃ (x4_1 : Int) (x5_1 : Int) (x14_1 : Int), v4 = .int .i64 x4_1 ∧ v5 = .int .i64 x5_1 ∧ v14 = .int .i64 x14_1 ∧ Aside0 (money_Sum.l0 kq x4_1 x5_1 l0 (l0.length : Int) x14_1 = some (r1, r2)) ∧ Aside0 (kq ≤ k) ∧ Aside0 (Below w.heap.size w w'))
   case atStart => exact ⟨(0), (0), (0), (by first | rfl | (simp; done) | (simp [*]; done)), (by first | rfl | (simp; done) | (simp [*]; done)), (by first | rfl | (simp; done) | (simp [*]; done)), H', ⟨Nat.le_refl _⟩, ⟨aH HB⟩⟩
   case round =>
    clear H'
    try clear p2
    try clear c3
    obtain ⟨x4_1, x5_1, x14_1, rfl, rfl, rfl, HA, HK1, HB⟩ := hrel
    cases gk with
    | zero => exact absurd HA.out (by simp [money_Sum.l0])
    | succ k1 =>
     have H := HA.out
     clear HA
     simp only [money_Sum.l0] at H
     by_cases c4 : x14_1 < (l0.length : Int)
     ·rw [if_pos c4] at H
      have c4b0 : decide (x14_1 < (l0.length : Int)) = true := decide_eq_true c4
      clear c4
      by_cases c5 : 0 ≤ x14_1
      ·rw [if_pos c5] at H
       have c5b0 : decide (0 ≤ x14_1) = true := decide_eq_true c5
       clear c5
       by_cases c6 : x14_1 < (l0.length : Int)
       ·rw [if_pos c6] at H
        have c6b0 : decide (x14_1 < (l0.length : Int)) = true := decide_eq_true c6
        clear c6
        have H' := Aside0.mk H
        clear H
        have p221 : 0 ≤ (x14_1 : Int) := of_decide_eq_true (by first | (with_reducible assumption) | assumption)
        have q221 : x14_1 < (l0.length : Int) := of_decide_eq_true (by first | (with_reducible assumption) | assumption)
        obtain ⟨ad221, e221, hx221_0⟩ := Kd.at_int HR0.out x14_1 p221 q221
        cases e221
        replace hx221_0 := (HB.out.cell (World.block_lt_of_cell? w _ hx221_0)).trans hx221_0
        replace p221 := eq_true p221
        replace q221 := eq_true q221
        go_wp2
        go_roundg k1
        case measure => have := HK1.out; omega
        case rel => exact ⟨(wrap64 (x4_1 + (wrap64 (Int.tdiv (rd l0 x14_1) 1000000)))), (wrap64 (x5_1 + (Int.tmod (rd l0 x14_1) 1000000))), (wrap64 (x14_1 + 1)), (by first | rfl | (simp; done) | (simp [*]; done)), (by first | rfl | (simp; done) | (simp [*]; done)), (by first | rfl | (simp; done) | (simp [*]; done)), H', ⟨by have := HK1.out; omega⟩, ⟨aH HB⟩⟩
       ·rw [if_neg c6] at H
        exact absurd H (by simp)
      ·rw [if_neg c5] at H
       exact absurd H (by simp)
     ·rw [if_neg c4] at H
      have c4b0 : decide (x14_1 < (l0.length : Int)) = false := decide_eq_false c4
      clear c4
      have HC7 := Aside0.mk H
      clear H
      go_upto_region 12 with (fail)
      go_cut [38] (fun v38 wc => ∃ (kq : Nat) (x38_6 : Bool), v38 = .bool x38_6 ∧ Aside0 (money_Sum.j1 kq (wrap64 (x4_1 + (wrap64 (Int.tdiv x5_1 1000000)))) (Int.tmod x5_1 1000000) x38_6 = some (r1, r2)) ∧ Aside0 (kq ≤ k1) ∧ Aside0 (Below w.heap.size w wc))
      case first =>
       have H := HC7.out
       clear HC7
       by_cases c8 : (wrap64 (x4_1 + (wrap64 (Int.tdiv x5_1 1000000)))) > 1000001
       ·rw [if_pos c8] at H
        have c8b0 : decide (1000001 < (wrap64 (x4_1 + (wrap64 (Int.tdiv x5_1 1000000))))) = true := decide_eq_true c8
        clear c8
        (first | rw [c8b0] | (simp only [i64_w, i32_w]; rw [c8b0]) | skip)
        have H' := Aside0.mk H
        clear H
        go_wp2
        go_meet
        case rel => exact ⟨_, (true), (by first | rfl | (simp; done) | (simp [*]; done)), H', ⟨by have := HK1.out; first | omega | exact Nat.le_refl _⟩, ⟨aH HB⟩⟩
       ·rw [if_neg c8] at H
        have c8b0 : decide (1000001 < (wrap64 (x4_1 + (wrap64 (Int.tdiv x5_1 1000000))))) = false := decide_eq_false c8
        clear c8
        (first | rw [c8b0] | (simp only [i64_w, i32_w]; rw [c8b0]) | skip)
        have H' := Aside0.mk H
        clear H
        go_wp2
        go_meet
        case rel => exact ⟨_, (decide ((wrap64 (x4_1 + (wrap64 (Int.tdiv x5_1 1000000)))) < (-1000001))), (by first | rfl | (simp; done) | (simp [*]; done)), H', ⟨by have := HK1.out; first | omega | exact Nat.le_refl _⟩, ⟨aH HB⟩⟩
      case rest =>
       clear HC7
       try clear p2
       try clear q2
       try clear hx2
       try clear c3
       try clear c4
       try clear c4b0
       try clear c5
       try clear c5b0
       try clear c6
       try clear c6b0
       try clear p6
       try clear c8
       try clear c8b0
       try clear hx221_0
       try clear p2
       try clear p221
       try clear q221
       obtain ⟨kq, x38_6, rfl, HA, HJ6, HB⟩ := hcut
       cases kq with
       | zero => exact absurd HA.out (by simp [money_Sum.j1])
       | succ kj6 =>
        have H := HA.out
        clear HA
        simp only [money_Sum.j1] at H
        by_cases c9 : x38_6 = true
        ·subst c9
         have H1 : (some (0, 3)) = some (r1, r2) := by rw [if_pos rfl] at H; exact H
         clear H
         have H := H1
         clear H1
         simp only [Option.some.injEq, Prod.mk.injEq] at H
         obtain ⟨rfl, rfl⟩ := H
         go_wp2
         go_ret2
         exact ⟨by first | rfl | (simp [errW_none, errW_some] <;> rfl) | (simp [*, errW_none, errW_some] <;> rfl) | (simp (disch := first | assumption | omega) only [Int.tdiv_eq_ediv_of_nonneg, Int.tmod_eq_emod_of_nonneg]; rfl), aH HB⟩
        ·replace c9 := Bool.eq_false_iff.mpr c9
         subst c9
         have H1 : ((money_amounts.f kj6 (([wrap64 ((wrap64 ((wrap64 (x4_1 + (wrap64 (Int.tdiv x5_1 1000000)))) * 1000000)) + (Int.tmod x5_1 1000000))] : List Int))).bind fun t225 => (if t225 = true then (some (wrap64 ((wrap64 ((wrap64 (x4_1 + (wrap64 (Int.tdiv x5_1 1000000)))) * 1000000)) + (Int.tmod x5_1 1000000)), 0)) else (some (0, 3)))) = some (r1, r2) := by rw [if_neg (show ¬ (false = true) by decide)] at H; exact H
         clear H
         have H := H1
         clear H1
         obtain ⟨y222, hy222⟩ : ∃ y_ : List Int, y_ = (([wrap64 ((wrap64 ((wrap64 (x4_1 + (wrap64 (Int.tdiv x5_1 1000000)))) * 1000000)) + (Int.tmod x5_1 1000000))] : List Int)) := ⟨_, rfl⟩
         replace H : ((money_amounts.f kj6 y222).bind fun t225 => (if t225 = true then (some (wrap64 ((wrap64 ((wrap64 (x4_1 + (wrap64 (Int.tdiv x5_1 1000000)))) * 1000000)) + (Int.tmod x5_1 1000000)), 0)) else (some (0, 3)))) = some (r1, r2) := by first | (rw [hy222]; with_reducible exact H) | (have H2_ := (Option.bind_some _ _).symm.trans H; rw [hy222]; with_reducible exact H2_) | (have H2_ := (Option.bind_some _ _).symm.trans H; with_reducible exact H2_) | with_reducible exact H | (rw [hy222]; exact H) | exact H
         have Ny222 := Aside0.mk hy222
         clear hy222
         replace H := Option.bind_eq_some_iff.mp H
         obtain ⟨t225, A100, H⟩ := H
         replace H : (if t225 = true then (some (wrap64 ((wrap64 ((wrap64 (x4_1 + (wrap64 (Int.tdiv x5_1 1000000)))) * 1000000)) + (Int.tmod x5_1 1000000)), 0)) else (some (0, 3))) = some (r1, r2) := H
         have A10 := Aside0.mk A100
         clear A100
         by_cases c11 : t225 = true
         ·subst c11
          have H1 : (some (wrap64 ((wrap64 ((wrap64 (x4_1 + (wrap64 (Int.tdiv x5_1 1000000)))) * 1000000)) + (Int.tmod x5_1 1000000)), 0)) = some (r1, r2) := by rw [if_pos rfl] at H; exact H
          clear H
          have H := H1
          clear H1
          simp only [Option.some.injEq, Prod.mk.injEq] at H
          obtain ⟨rfl, rfl⟩ := H
          go_wp2_with (first | ((with_reducible refine gate_dst (N := 44) rfl ?_); refine Kd.R_lit (Kd.int .i64) _ 3 ?hg (N := 44) ?hd (xs := ([wrap64 ((wrap64 ((wrap64 (x4_1 + (wrap64 (Int.tdiv x5_1 1000000)))) * 1000000)) + (Int.tmod x5_1 1000000))] : List Int)) (inner := [.int .i64 (wrap64 ((wrap64 ((wrap64 (x4_1 + (wrap64 (Int.tdiv x5_1 1000000)))) * 1000000)) + (Int.tmod x5_1 1000000)))]) (ok := fun _ => True) (okp := fun _ => True) ?hr ?hp (fun _ hk => hk) trivial (Below.refl _ _) (Nat.le_refl _) (by simp) ?_; (case hd => rfl); (case hg => rfl); (case hr => first | (go_simp; done) | (go_simp; rfl)); (case hp => exact (Reps.one (show Kd.M (Kd.int .i64) _ _ _ (wrap64 ((wrap64 ((wrap64 (x4_1 + (wrap64 (Int.tdiv x5_1 1000000)))) * 1000000)) + (Int.tmod x5_1 1000000))) [.int .i64 (wrap64 ((wrap64 ((wrap64 (x4_1 + (wrap64 (Int.tdiv x5_1 1000000)))) * 1000000)) + (Int.tmod x5_1 1000000)))] from rfl) (Reps.none _ _))); intro v223 w12 ho13 hb hg_ hnew_; clear hg_ hnew_; (first | rw [← Ny222.out] at ho13 | (simp only [Int.reduceToNat] at ho13; rw [← Ny222.out] at ho13)); have n0_ := rL ho13 HB; have n1_ := hB HB hb; clear HB; have HO224 := n0_; have HB := n1_; clear n0_ n1_; clear hb ho13; obtain ⟨Ao14, co14, eo14⟩ := Kd.R_slice HO224.out; subst eo14) | ((with_reducible refine gate_callee (f := 39) rfl ?_); refine goA (some 45) Try.func39 #[.slice Ao14 y222.length co14] ?_; (with_reducible refine (money_amounts.calls kj6 _ _ y222 true _ ?side1 ?side2 A10.out).mono ?_); (case side1 => repeat (first | exact (Kd.R_reads' HO224.out).2.2 | (with_reducible refine Kd.C_alloc ?_ _) | (with_reducible refine Kd.C_drewN ?_ _) | (with_reducible refine Kd.C_drew ?_))); (case side2 => exact (Kd.R_reads' HO224.out).2.1); rintro e w' ⟨rfl, ⟨nd, rfl⟩⟩; refine ⟨_, rfl, ?_⟩))
          go_ret2
          exact ⟨by first | rfl | (simp [errW_none, errW_some] <;> rfl) | (simp [*, errW_none, errW_some] <;> rfl) | (simp (disch := first | assumption | omega) only [Int.tdiv_eq_ediv_of_nonneg, Int.tmod_eq_emod_of_nonneg]; rfl), aH HB⟩
         ·replace c11 := Bool.eq_false_iff.mpr c11
          subst c11
          have H1 : (some (0, 3)) = some (r1, r2) := by rw [if_neg (show ¬ (false = true) by decide)] at H; exact H
          clear H
          have H := H1
          clear H1
          simp only [Option.some.injEq, Prod.mk.injEq] at H
          obtain ⟨rfl, rfl⟩ := H
          go_wp2_with (first | ((with_reducible refine gate_dst (N := 44) rfl ?_); refine Kd.R_lit (Kd.int .i64) _ 3 ?hg (N := 44) ?hd (xs := ([wrap64 ((wrap64 ((wrap64 (x4_1 + (wrap64 (Int.tdiv x5_1 1000000)))) * 1000000)) + (Int.tmod x5_1 1000000))] : List Int)) (inner := [.int .i64 (wrap64 ((wrap64 ((wrap64 (x4_1 + (wrap64 (Int.tdiv x5_1 1000000)))) * 1000000)) + (Int.tmod x5_1 1000000)))]) (ok := fun _ => True) (okp := fun _ => True) ?hr ?hp (fun _ hk => hk) trivial (Below.refl _ _) (Nat.le_refl _) (by simp) ?_; (case hd => rfl); (case hg => rfl); (case hr => first | (go_simp; done) | (go_simp; rfl)); (case hp => exact (Reps.one (show Kd.M (Kd.int .i64) _ _ _ (wrap64 ((wrap64 ((wrap64 (x4_1 + (wrap64 (Int.tdiv x5_1 1000000)))) * 1000000)) + (Int.tmod x5_1 1000000))) [.int .i64 (wrap64 ((wrap64 ((wrap64 (x4_1 + (wrap64 (Int.tdiv x5_1 1000000)))) * 1000000)) + (Int.tmod x5_1 1000000)))] from rfl) (Reps.none _ _))); intro v223 w15 ho16 hb hg_ hnew_; clear hg_ hnew_; (first | rw [← Ny222.out] at ho16 | (simp only [Int.reduceToNat] at ho16; rw [← Ny222.out] at ho16)); have n0_ := rL ho16 HB; have n1_ := hB HB hb; clear HB; have HO224 := n0_; have HB := n1_; clear n0_ n1_; clear hb ho16; obtain ⟨Ao17, co17, eo17⟩ := Kd.R_slice HO224.out; subst eo17) | ((with_reducible refine gate_callee (f := 39) rfl ?_); refine goA (some 45) Try.func39 #[.slice Ao17 y222.length co17] ?_; (with_reducible refine (money_amounts.calls kj6 _ _ y222 false _ ?side1 ?side2 A10.out).mono ?_); (case side1 => repeat (first | exact (Kd.R_reads' HO224.out).2.2 | (with_reducible refine Kd.C_alloc ?_ _) | (with_reducible refine Kd.C_drewN ?_ _) | (with_reducible refine Kd.C_drew ?_))); (case side2 => exact (Kd.R_reads' HO224.out).2.1); rintro e w' ⟨rfl, ⟨nd, rfl⟩⟩; refine ⟨_, rfl, ?_⟩))
          go_ret2
          exact ⟨by first | rfl | (simp [errW_none, errW_some] <;> rfl) | (simp [*, errW_none, errW_some] <;> rfl) | (simp (disch := first | assumption | omega) only [Int.tdiv_eq_ediv_of_nonneg, Int.tmod_eq_emod_of_nonneg]; rfl), aH HB⟩
  ·replace c3 := Bool.eq_false_iff.mpr c3
   subst c3
   have H1 : (some (0, 2)) = some (r1, r2) := by rw [if_neg (show ¬ (false = true) by decide)] at H; exact H
   clear H
   have H := H1
   clear H1
   simp only [Option.some.injEq, Prod.mk.injEq] at H
   obtain ⟨rfl, rfl⟩ := H
   go_enter Try.func30, Try.ntmps30
   go_wp2_with (first | ((with_reducible refine gate_callee (f := 39) rfl ?_); refine goA (some 10) Try.func39 #[.slice A0 l0.length c0] ?_; (with_reducible refine (money_amounts.calls k _ _ l0 false _ ?side1 ?side2 A2.out).mono ?_); (case side1 => repeat (first | exact HR0.out | (with_reducible refine Kd.C_alloc ?_ _) | (with_reducible refine Kd.C_drewN ?_ _) | (with_reducible refine Kd.C_drew ?_))); (case side2 => exact HC0.out); rintro e w' ⟨rfl, ⟨nd, rfl⟩⟩; refine ⟨_, rfl, ?_⟩))
   go_ret2
   exact ⟨by first | rfl | (simp [errW_none, errW_some] <;> rfl) | (simp [*, errW_none, errW_some] <;> rfl) | (simp (disch := first | assumption | omega) only [Int.tdiv_eq_ediv_of_nonneg, Int.tmod_eq_emod_of_nonneg]; rfl), aH HB⟩

end Go.Proofs.Yteoieencagcgdaa.PX
end
section
namespace Go.Proofs.Yteoieencagcgdaa.PX
open Go.RowKit Go.Proofs.YteoieencagcgdaaW.PrintWords Go.Proofs.YteoieencagcgdaaW.PrintLast Go.Proofs.YteoieencagcgdaaW.PrintMore
attribute [local go_sem] max2_int min2_int max_two min_two max_three min_three max_four min_four
set_option linter.unusedVariables false
set_option linter.unusedSimpArgs false

mutual
def apportion_check.j0 : Nat → Int → List Int → Bool → Option (Int × Int)
  | 0, _, _, _ => none
  | k + 1, x0, x1, x17 => if x17 = true then (some (0, 2)) else (apportion_check.l0 k x0 x1 0 x1 (x1.length : Int) 0)
def apportion_check.l0 : Nat → Int → List Int → Int → List Int → Int → Int → Option (Int × Int)
  | 0, _, _, _, _, _, _ => none
  | k + 1, x0, x1, x6, x18, x19, x20 => if x20 < x19 then (if 0 ≤ x20 then (if x20 < (x18.length : Int) then (if (rd x18 x20) < 0 then (some (0, 2)) else (if (rd x18 x20) > 1000000000000 then (some (0, 2)) else (apportion_check.l0 k x0 x1 (wrap64 (x6 + (rd x18 x20))) x18 x19 (wrap64 (x20 + 1))))) else (none)) else (none)) else (if (x1.length : Int) = 0 then (if x0 > 0 then (some (0, 7)) else (some (x6, 0))) else (some (x6, 0)))
end
def apportion_check.f (k : Nat) (a0 : Int) (l1 : List Int) : Option (Int × Int) := if (l1.length : Int) > 1000 then (some (0, 8)) else (if a0 < 0 then (apportion_check.j0 k a0 l1 true) else (apportion_check.j0 k a0 l1 (decide (a0 > 1000000000000))))
set_option maxHeartbeats 8000000 in
set_option maxRecDepth 100000 in
theorem apportion_check.calls (k : Nat) (a0 : Int) (A1 : Option Addr) (c1 : Nat) (l1 : List Int) (r1 : Int) (r2 : Int) (w : World) (hr1 : Kd.C (Kd.int .i64) w A1 l1.length l1) (hc1 : l1.length ≤ c1) (h : apportion_check.f k a0 l1 = some (r1, r2)) :
   Calls Try.prog 40 #[.int .i64 a0, .slice A1 l1.length c1] w fun e w' => e = .returned (.tuple #[.int .i64 r1, .int .i64 r2]) ∧ Drawn0 w w' := by
  have HR1 := Aside0.mk hr1
  have HC1 := Aside0.mk hc1
  clear hr1 hc1
  have H : (if (l1.length : Int) > 1000 then (some (0, 8)) else (if a0 < 0 then (apportion_check.j0 k a0 l1 true) else (apportion_check.j0 k a0 l1 (decide (a0 > 1000000000000))))) = some (r1, r2) := h
  clear h
  by_cases c3 : (l1.length : Int) > 1000
  ·rw [if_pos c3] at H
   have c3b0 : decide (1000 < (l1.length : Int)) = true := decide_eq_true c3
   have c3b1 : decide (1000 < l1.length) = true := decide_eq_true (by omega)
   clear c3
   simp only [Option.some.injEq, Prod.mk.injEq] at H
   obtain ⟨rfl, rfl⟩ := H
   go_enter Try.func40, Try.ntmps40
   go_wp2
   go_ret2
   exact ⟨by first | rfl | (simp; done) | (simp [*]; done), by repeat (first | exact Drawn0.refl _ | apply Drawn0.step)⟩
  ·rw [if_neg c3] at H
   have c3b0 : decide (1000 < (l1.length : Int)) = false := decide_eq_false c3
   have c3b1 : decide (1000 < l1.length) = false := decide_eq_false (by omega)
   clear c3
   have HC4 := Aside0.mk H
   clear H
   go_enter Try.func40, Try.ntmps40
   go_upto_region 3 with (fail)
   go_cut [17] (fun v17 wc => ∃ (kq : Nat) (x17_3 : Bool), v17 = .bool x17_3 ∧ Aside0 (apportion_check.j0 kq a0 l1 x17_3 = some (r1, r2)) ∧ Aside0 (kq ≤ k) ∧ Drawn0 w wc)
   case first =>
    have H := HC4.out
    clear HC4
    by_cases c5 : a0 < 0
    ·rw [if_pos c5] at H
     have c5b0 : decide (a0 < 0) = true := decide_eq_true c5
     clear c5
     (first | rw [c5b0] | (simp only [i64_w, i32_w]; rw [c5b0]) | skip)
     have H' := Aside0.mk H
     clear H
     go_wp2
     go_meet
     case rel => exact ⟨_, (true), (by first | rfl | (simp; done) | (simp [*]; done)), H', ⟨by first | omega | exact Nat.le_refl _⟩, by repeat (first | exact Drawn0.refl _ | apply Drawn0.step)⟩
    ·rw [if_neg c5] at H
     have c5b0 : decide (a0 < 0) = false := decide_eq_false c5
     clear c5
     (first | rw [c5b0] | (simp only [i64_w, i32_w]; rw [c5b0]) | skip)
     have H' := Aside0.mk H
     clear H
     go_wp2
     go_meet
     case rel => exact ⟨_, (decide (a0 > 1000000000000)), (by first | rfl | (simp; done) | (simp [*]; done)), H', ⟨by first | omega | exact Nat.le_refl _⟩, by repeat (first | exact Drawn0.refl _ | apply Drawn0.step)⟩
   case rest =>
    clear HC4
    try clear c1
    try clear p2
    try clear c3
    try clear c3b0
    try clear c3b1
    try clear c4
    try clear c5
    try clear c5b0
    obtain ⟨kq, x17_3, rfl, HA, HJ3, ⟨mc3, rfl⟩⟩ := hcut
    cases kq with
    | zero => exact absurd HA.out (by simp [apportion_check.j0])
    | succ kj3 =>
     have H := HA.out
     clear HA
     simp only [apportion_check.j0] at H
     by_cases c6 : x17_3 = true
     ·subst c6
      have H1 : (some (0, 2)) = some (r1, r2) := by rw [if_pos rfl] at H; exact H
      clear H
      have H := H1
      clear H1
      simp only [Option.some.injEq, Prod.mk.injEq] at H
      obtain ⟨rfl, rfl⟩ := H
      go_wp2
      go_ret2
      exact ⟨by first | rfl | (simp; done) | (simp [*]; done), by repeat (first | exact Drawn0.refl _ | apply Drawn0.step)⟩
     ·replace c6 := Bool.eq_false_iff.mpr c6
      subst c6
      have H1 : (apportion_check.l0 kj3 a0 l1 0 l1 (l1.length : Int) 0) = some (r1, r2) := by rw [if_neg (show ¬ (false = true) by decide)] at H; exact H
      clear H
      have H := H1
      clear H1
      have H' := Aside0.mk H
      clear H
      go_wp2
      go_loopg [6, 20] kj3 (fun kq v6 v20 w' => ∃ (x6_2 : Int) (x20_2 : Int), v6 = .int .i64 x6_2 ∧ v20 = .int .i64 x20_2 ∧ Aside0 (apportion_check.l0 kq a0 l1 x6_2 l1 (l1.length : Int) x20_2 = some (r1, r2)) ∧ Aside0 (kq ≤ kj3) ∧ Drawn0 w w')
      case atStart => exact ⟨(0), (0), (by first | rfl | (simp; done) | (simp [*]; done)), (by first | rfl | (simp; done) | (simp [*]; done)), H', ⟨Nat.le_refl _⟩, by repeat (first | exact Drawn0.refl _ | apply Drawn0.step)⟩
      case round =>
       clear H'
       try clear c1
       try clear p2
       try clear c3
       try clear c3b0
       try clear c3b1
       try clear c4
       try clear c5
       try clear c5b0
       try clear c6
       try clear p2
       obtain ⟨x6_2, x20_2, rfl, rfl, HA, HK2, ⟨m2, rfl⟩⟩ := hrel
       cases gk with
       | zero => exact absurd HA.out (by simp [apportion_check.l0])
       | succ k2 =>
        have H := HA.out
        clear HA
        simp only [apportion_check.l0] at H
        by_cases c7 : x20_2 < (l1.length : Int)
        ·rw [if_pos c7] at H
         have c7b0 : decide (x20_2 < (l1.length : Int)) = true := decide_eq_true c7
         clear c7
         by_cases c8 : 0 ≤ x20_2
         ·rw [if_pos c8] at H
          have c8b0 : decide (0 ≤ x20_2) = true := decide_eq_true c8
          clear c8
          by_cases c9 : x20_2 < (l1.length : Int)
          ·rw [if_pos c9] at H
           have c9b0 : decide (x20_2 < (l1.length : Int)) = true := decide_eq_true c9
           clear c9
           by_cases c10 : (rd l1 x20_2) < 0
           ·rw [if_pos c10] at H
            have c10b0 : decide ((rd l1 x20_2) < 0) = true := decide_eq_true c10
            clear c10
            simp only [Option.some.injEq, Prod.mk.injEq] at H
            obtain ⟨rfl, rfl⟩ := H
            have p226 : 0 ≤ (x20_2 : Int) := of_decide_eq_true (by first | (with_reducible assumption) | assumption)
            have q226 : x20_2 < (l1.length : Int) := of_decide_eq_true (by first | (with_reducible assumption) | assumption)
            obtain ⟨ad226, e226, hx226_0⟩ := Kd.at_int HR1.out x20_2 p226 q226
            cases e226
            replace p226 := eq_true p226
            replace q226 := eq_true q226
            go_wp2
            go_ret2
            exact ⟨by first | rfl | (simp; done) | (simp [*]; done), by repeat (first | exact Drawn0.refl _ | apply Drawn0.step)⟩
           ·rw [if_neg c10] at H
            have c10b0 : decide ((rd l1 x20_2) < 0) = false := decide_eq_false c10
            clear c10
            by_cases c11 : (rd l1 x20_2) > 1000000000000
            ·rw [if_pos c11] at H
             have c11b0 : decide (1000000000000 < (rd l1 x20_2)) = true := decide_eq_true c11
             clear c11
             simp only [Option.some.injEq, Prod.mk.injEq] at H
             obtain ⟨rfl, rfl⟩ := H
             have p226 : 0 ≤ (x20_2 : Int) := of_decide_eq_true (by first | (with_reducible assumption) | assumption)
             have q226 : x20_2 < (l1.length : Int) := of_decide_eq_true (by first | (with_reducible assumption) | assumption)
             obtain ⟨ad226, e226, hx226_0⟩ := Kd.at_int HR1.out x20_2 p226 q226
             cases e226
             replace p226 := eq_true p226
             replace q226 := eq_true q226
             go_wp2
             go_ret2
             exact ⟨by first | rfl | (simp; done) | (simp [*]; done), by repeat (first | exact Drawn0.refl _ | apply Drawn0.step)⟩
            ·rw [if_neg c11] at H
             have c11b0 : decide (1000000000000 < (rd l1 x20_2)) = false := decide_eq_false c11
             clear c11
             have H' := Aside0.mk H
             clear H
             have p226 : 0 ≤ (x20_2 : Int) := of_decide_eq_true (by first | (with_reducible assumption) | assumption)
             have q226 : x20_2 < (l1.length : Int) := of_decide_eq_true (by first | (with_reducible assumption) | assumption)
             obtain ⟨ad226, e226, hx226_0⟩ := Kd.at_int HR1.out x20_2 p226 q226
             cases e226
             replace p226 := eq_true p226
             replace q226 := eq_true q226
             go_wp2
             go_roundg k2
             case measure => have := HJ3.out; have := HK2.out; omega
             case rel => exact ⟨(wrap64 (x6_2 + (rd l1 x20_2))), (wrap64 (x20_2 + 1)), (by first | rfl | (simp; done) | (simp [*]; done)), (by first | rfl | (simp; done) | (simp [*]; done)), H', ⟨by have := HJ3.out; have := HK2.out; omega⟩, by repeat (first | exact Drawn0.refl _ | apply Drawn0.step)⟩
          ·rw [if_neg c9] at H
           exact absurd H (by simp)
         ·rw [if_neg c8] at H
          exact absurd H (by simp)
        ·rw [if_neg c7] at H
         have c7b0 : decide (x20_2 < (l1.length : Int)) = false := decide_eq_false c7
         clear c7
         by_cases c12 : (l1.length : Int) = 0
         ·rw [if_pos c12] at H
          have c12b0 : ((l1.length : Int) == 0) = true := beq_iff_eq.mpr c12
          have c12b1 : ((l1.length : Int) != 0) = false := bne_eq_false_iff_eq.mpr c12
          clear c12
          by_cases c13 : a0 > 0
          ·rw [if_pos c13] at H
           have c13b0 : decide (0 < a0) = true := decide_eq_true c13
           clear c13
           simp only [Option.some.injEq, Prod.mk.injEq] at H
           obtain ⟨rfl, rfl⟩ := H
           go_wp2
           go_ret2
           exact ⟨by first | rfl | (simp; done) | (simp [*]; done), by repeat (first | exact Drawn0.refl _ | apply Drawn0.step)⟩
          ·rw [if_neg c13] at H
           have c13b0 : decide (0 < a0) = false := decide_eq_false c13
           clear c13
           simp only [Option.some.injEq, Prod.mk.injEq] at H
           obtain ⟨rfl, rfl⟩ := H
           go_wp2
           go_ret2
           exact ⟨by first | rfl | (simp; done) | (simp [*]; done), by repeat (first | exact Drawn0.refl _ | apply Drawn0.step)⟩
         ·rw [if_neg c12] at H
          have c12b0 : ((l1.length : Int) == 0) = false := beq_eq_false_iff_ne.mpr c12
          have c12b1 : ((l1.length : Int) != 0) = true := bne_iff_ne.mpr c12
          have c12b2 : ¬ (l1 = []) := fun h_ => c12 (by rw [h_]; rfl)
          simp only [Option.some.injEq, Prod.mk.injEq] at H
          obtain ⟨rfl, rfl⟩ := H
          go_wp2
          go_ret2
          exact ⟨by first | rfl | (simp; done) | (simp [*]; done), by repeat (first | exact Drawn0.refl _ | apply Drawn0.step)⟩

end Go.Proofs.Yteoieencagcgdaa.PX
end
section
namespace Go.Proofs.Yteoieencagcgdaa.PX
open Go.RowKit Go.Proofs.YteoieencagcgdaaW.PrintWords Go.Proofs.YteoieencagcgdaaW.PrintLast Go.Proofs.YteoieencagcgdaaW.PrintMore
attribute [local go_sem] max2_int min2_int max_two min_two max_three min_three max_four min_four
set_option linter.unusedVariables false
set_option linter.unusedSimpArgs false

def bits_Rem64.f (k : Nat) (a0 : Int) (a1 : Int) (a2 : Int) : Option (Int) := if a2 = 0 then (none) else ((bits_Div64.f k (Int.tmod a0 a2) a1 a2).bind fun bt227 => (some bt227.2))
set_option maxHeartbeats 8000000 in
set_option maxRecDepth 100000 in
theorem bits_Rem64.calls (k : Nat) (a0 : Int) (a1 : Int) (a2 : Int) (r : Int) (w : World) (h : bits_Rem64.f k a0 a1 a2 = some r) :
   Calls Try.prog 53 #[.int .u64 a0, .int .u64 a1, .int .u64 a2] w fun e w' => e = .returned (.int .u64 r) ∧ Drawn0 w w' := by
  have H : (if a2 = 0 then (none) else ((bits_Div64.f k (Int.tmod a0 a2) a1 a2).bind fun bt227 => (some bt227.2))) = some r := h
  clear h
  by_cases c4 : a2 = 0
  ·rw [if_pos c4] at H
   exact absurd H (by simp)
  ·rw [if_neg c4] at H
   have c4b0 : (a2 == 0) = false := beq_eq_false_iff_ne.mpr c4
   have c4b1 : (a2 != 0) = true := bne_iff_ne.mpr c4
   replace H := Option.bind_eq_some_iff.mp H
   obtain ⟨⟨t227, t228⟩, A50, H⟩ := H
   replace H : (some t228) = some r := H
   have A5 := Aside0.mk A50
   clear A50
   obtain rfl := Option.some.inj H
   simp only [Option.some.injEq, Prod.mk.injEq] at H
   obtain ⟨rfl⟩ := H
   go_enter Try.func53, Try.ntmps53
   go_wp2_with (first | ((with_reducible refine gate_callee (f := 59) rfl ?_); refine goA (some 15) Try.func59 #[.int .u64 (Int.tmod a0 a2), .int .u64 a1, .int .u64 a2] ?_; (with_reducible refine (bits_Div64.calls k (Int.tmod a0 a2) a1 a2 t227 t228 _ A5.out).mono ?_); rintro e w' ⟨rfl, ⟨nd, rfl⟩⟩; refine ⟨_, rfl, ?_⟩))
   go_ret
   exact ⟨by first | rfl | (simp; done) | (simp [*]; done), by repeat (first | exact Drawn0.refl _ | apply Drawn0.step)⟩

end Go.Proofs.Yteoieencagcgdaa.PX
end
section
namespace Go.Proofs.Yteoieencagcgdaa.PX
open Go.RowKit Go.Proofs.YteoieencagcgdaaW.PrintWords Go.Proofs.YteoieencagcgdaaW.PrintLast Go.Proofs.YteoieencagcgdaaW.PrintMore
attribute [local go_sem] max2_int min2_int max_two min_two max_three min_three max_four min_four
set_option linter.unusedVariables false
set_option linter.unusedSimpArgs false

def exact_MulMod.f (k : Nat) (a0 : Int) (a1 : Int) (a2 : Int) : Option (Int) := if a2 = 0 then (some 0) else ((exact_Mul.f a0 a1).bind fun bt229 => ((bits_Rem64.f k bt229.1 bt229.2 a2).bind fun t232 => (some t232)))
set_option maxHeartbeats 8000000 in
set_option maxRecDepth 100000 in
theorem exact_MulMod.calls (k : Nat) (a0 : Int) (a1 : Int) (a2 : Int) (r : Int) (w : World) (h : exact_MulMod.f k a0 a1 a2 = some r) :
   Calls Try.prog 42 #[.int .u64 a0, .int .u64 a1, .int .u64 a2] w fun e w' => e = .returned (.int .u64 r) ∧ Below w.heap.size w w' := by
  have hu89 := Try.underlying89
  have HB := Aside0.mk (Below.refl w.heap.size w)
  have H : (if a2 = 0 then (some 0) else ((exact_Mul.f a0 a1).bind fun bt229 => ((bits_Rem64.f k bt229.1 bt229.2 a2).bind fun t232 => (some t232)))) = some r := h
  clear h
  by_cases c4 : a2 = 0
  ·rw [if_pos c4] at H
   have c4b0 : (a2 == 0) = true := beq_iff_eq.mpr c4
   have c4b1 : (a2 != 0) = false := bne_eq_false_iff_eq.mpr c4
   clear c4
   obtain rfl := Option.some.inj H
   simp only [Option.some.injEq, Prod.mk.injEq] at H
   obtain ⟨rfl⟩ := H
   go_enter Try.func42, Try.ntmps42
   go_wp2
   go_ret
   exact ⟨by first | rfl | (simp [errW_none, errW_some] <;> rfl) | (simp [*, errW_none, errW_some] <;> rfl) | (simp (disch := first | assumption | omega) only [Int.tdiv_eq_ediv_of_nonneg, Int.tmod_eq_emod_of_nonneg]; rfl), aH HB⟩
  ·rw [if_neg c4] at H
   have c4b0 : (a2 == 0) = false := beq_eq_false_iff_ne.mpr c4
   have c4b1 : (a2 != 0) = true := bne_iff_ne.mpr c4
   replace H := Option.bind_eq_some_iff.mp H
   obtain ⟨⟨t229, t230⟩, A50, H⟩ := H
   replace H : ((bits_Rem64.f k t229 t230 a2).bind fun t232 => (some t232)) = some r := H
   have A5 := Aside0.mk A50
   clear A50
   replace H := Option.bind_eq_some_iff.mp H
   obtain ⟨t232, A60, H⟩ := H
   replace H : (some t232) = some r := H
   have A6 := Aside0.mk A60
   clear A60
   obtain rfl := Option.some.inj H
   simp only [Option.some.injEq, Prod.mk.injEq] at H
   obtain ⟨rfl⟩ := H
   go_enter Try.func42, Try.ntmps42
   go_wp2_with (first | ((with_reducible refine gate_callee (f := 52) rfl ?_); refine goA (some 12) Try.func52 #[.int .u64 a0, .int .u64 a1] ?_; (with_reducible refine (exact_Mul.calls a0 a1 t229 t230 _ A5.out).mono ?_); rintro e w7 ⟨rfl, hb⟩; refine ⟨_, rfl, ?_⟩; have n0_ := hB HB hb; clear HB; have HB := n0_; clear n0_; clear hb) | ((with_reducible refine gate_dst (N := 7) rfl ?_); refine boxA (N := 7) (cs := #[.int .u64 0, .int .u64 0]) (t := 89) ?_; intro gb231 hg w8 hbox hb; have n0_ := hB HB hb; have n1_ := Aside0.mk (hbox); have n2_ := gW hg HB; have n3_ := gW hg HB; clear HB; have HB := n0_; have BK231 := n1_; have GW231 := n2_; have GE231 := n3_; clear n0_ n1_ n2_ n3_; clear hb hbox hg; have hcz9_0 : w8.cell? ⟨gb231, 0, none⟩ = some (.int .u64 0) := lc BK231 0; have hcz9_1 : w8.cell? ⟨gb231, 1, none⟩ = some (.int .u64 0) := lc BK231 1; have hfz9_0 := fz BK231 0; have hfz9_1 := fz BK231 1) | ((with_reducible refine gate_callee (f := 53) rfl ?_); refine goA (some 18) Try.func53 #[.int .u64 t229, .int .u64 t230, .int .u64 a2] ?_; (with_reducible refine (bits_Rem64.calls k t229 t230 a2 t232 _ A6.out).mono ?_); rintro e w' ⟨rfl, ⟨nd, rfl⟩⟩; refine ⟨_, rfl, ?_⟩))
   go_ret
   exact ⟨by first | rfl | (simp [errW_none, errW_some] <;> rfl) | (simp [*, errW_none, errW_some] <;> rfl) | (simp (disch := first | assumption | omega) only [Int.tdiv_eq_ediv_of_nonneg, Int.tmod_eq_emod_of_nonneg]; rfl), aH HB⟩

end Go.Proofs.Yteoieencagcgdaa.PX
end
